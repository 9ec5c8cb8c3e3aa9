/- A view that grows. More of the program's structs as plain data: acts, offers, nodes, worlds. Votes, rising by who it is: plain. The examples of the laws of trees and cursors. Plain tools for printed functions: loops by what holds at their heads. What the laws hand over, with the bounds of its numbers. Plain facts of trees: what the program's Find, Slot, Kids tell. Plain facts of a beginning of blocks. The references of layer 6 tell what the program's trees tell: plain laws. Conditions: blocks' numbers are of their kinds; not too many blocks. Plain laws of the shuffle. Plain laws of the shuffle: all places together. Laws of duties. Plain laws of duties: which confs may be, and sums of weights. Plain laws of duties: which confs may be; weights. Plain laws of duties: weights of lists; lists. Plain laws of duties: committees, proposers. Laws of duties. Laws of duties. Laws of duties: DutyAll. Laws of duties: DutyParts. Laws of duties. Laws of duties: DutyWeighs. The book of votes. The sort of votes by who it is: the shelf's structures at this program. One's own slice of votes, as the sort's row. slices.SortFunc over a slice of votes of one's own, by who it is: the shelf's contract in my terms. Votes sorted by who it is. votes.sorted. The votes of a slot. The votes of a slot that count: plain. Conditions: none. -/
import Derived.Test.YtabjakfgaodocaaGreatX6
import Derived.Test.YtabjakfgaodocaaGreatX4
import Derived.Test.YtabjakfgaodocaaGreatX5
import Derived.Shelf.SlSortCmp.WholeK
import Derived.Shelf.SlicesG.Cmp
import Derived.Test.YtabjakfgaodocaaGreatChecked
import Derived.Shelf.SlGeneric
import Derived.Test.YtabjakfgaodocaaGreatX3
import Derived.Shelf.GgSortFunc.InsertionK
import Derived.Shelf.SlSortCmp.NoneTotal
namespace Go.Mg
open Go.Proofs
def F159 (n : Int) (most : Int) (full : Bool) : Option (Bool × Bool) :=
  bif full then
    some (decide (n < most), true)
  else
    some (decide (n < most), decide (n ≥ most))
set_option maxRecDepth 100000 in
theorem cF159 {n : Int} {most : Int} {wB : List Bk} {wV : List Vt} {sm : List (ID × Int)} {hm : List (Vt × Bool)} {upto : Int} {full : Bool} {lB : List Bk} {lV : List Vt} {n0 : Nat} {k0 : Nat} {n1 : Nat} {k1 : Nat} {r_ : Bool × Bool} (hr : F159 n most full = some r_) : LC Tryz.prog 183 [.ptr 10 0, .p (.int .i64 n), .p (.int .i64 most)] [.dead, .dead, .dead, .box [.zs, .zs], .box [.zs, .zs], .dead, .vec 5 (wB.map blkP), .vec 4 (wV.map vtP), .map (entsOf idP (fun v => .p (.int .i64 v)) sm), .map (entsOf vtP (fun v => .p (.bool v)) hm), .box [.vec 5 6 (wB.map blkP).length 0 (wB.map blkP).length, .vec 4 7 (wV.map vtP).length 0 (wV.map vtP).length, .map 8, .map 9, .p (.int .i64 upto), .p (.bool full)], .dead, .dead, .dead, .vec 5 (lB.map blkP), .vec 4 (lV.map vtP), .box [.vec 5 14 n0 0 k0, .vec 4 15 n1 0 k1]] (Is (.p (.bool r_.1)) [.dead, .dead, .dead, .box [.zs, .zs], .box [.zs, .zs], .dead, .vec 5 (wB.map blkP), .vec 4 (wV.map vtP), .map (entsOf idP (fun v => .p (.int .i64 v)) sm), .map (entsOf vtP (fun v => .p (.bool v)) hm), .box [.vec 5 6 (wB.map blkP).length 0 (wB.map blkP).length, .vec 4 7 (wV.map vtP).length 0 (wV.map vtP).length, .map 8, .map 9, .p (.int .i64 upto), .p (.bool r_.2)], .dead, .dead, .dead, .vec 5 (lB.map blkP), .vec 4 (lV.map vtP), .box [.vec 5 14 n0 0 k0, .vec 4 15 n1 0 k1]]) := by
  refine LC.start Tryz.func183 rfl rfl rfl ?_
  unfold F159 at hr
  refine LW.seq (LW.region (LOps.st rfl rfl rfl (LOp.assign rfl rfl) (LOps.nil (thn_n (LW.seq (LW.region (LOps.st rfl rfl rfl (LOp.move rfl rfl) (LOps.st rfl rfl rfl (LOp.move rfl rfl) (LOps.st rfl rfl rfl (LOp.nilCheck rfl rfl) (LOps.st rfl rfl rfl (LOp.fieldAddr rfl rfl ft149_4) (LOps.st rfl rfl rfl (LOp.load rfl rfl rfl vt4 rfl rfl) ?_)))))))))))
  refine LOps.st rfl rfl rfl (LOp.move rfl rfl) ?_
  refine LOps.cases 12 rfl (fun (g1 : full = true) => ?_) (fun (g1 : full = false) => ?_)
  ·
    have hr := ite_t g1 hr
    refine LOps.sk rfl rfl rfl (gd g1 rfl) rfl rfl (LOps.sk rfl rfl rfl (gd g1 rfl) rfl rfl (LOps.sk rfl rfl rfl (gd g1 rfl) rfl rfl (LOps.st rfl rfl rfl (LOp.pickT rfl (gdl g1 rfl) rfl) (LOps.st rfl rfl rfl (LOp.nilCheck rfl rfl) (LOps.st rfl rfl rfl (LOp.fieldAddr rfl rfl ft149_4) (LOps.st rfl rfl rfl (LOp.store rfl rfl rfl rfl vt4 rfl rfl rfl rfl) (LOps.nil (thn_n (LW.seq (LW.region (LOps.st rfl rfl rfl (LOp.move rfl rfl) ?_)))))))))))
    refine LOps.st rfl rfl rfl (LOp.move rfl rfl) (LOps.st rfl rfl rfl (LOp.bin rfl rfl rfl rfl) (LOps.st rfl rfl rfl (LOp.assign rfl rfl) (LOps.nil (thn_n (LW.ret ?_)))))
    obtain rfl := Option.some.inj hr
    refine fin_ret (.one (.tmp rfl)) ?_
    exact ⟨rfl, rfl⟩
  ·
    have hr := ite_f g1 hr
    refine LOps.gd rfl rfl rfl (gd g1 rfl) rfl (LOp.move rfl rfl) (LOps.gd rfl rfl rfl (gd g1 rfl) rfl (LOp.move rfl rfl) (LOps.gd rfl rfl rfl (gd g1 rfl) rfl (LOp.bin rfl rfl rfl rfl) (LOps.st rfl rfl rfl (LOp.pickF rfl (gdl g1 rfl) rfl) (LOps.st rfl rfl rfl (LOp.nilCheck rfl rfl) (LOps.st rfl rfl rfl (LOp.fieldAddr rfl rfl ft149_4) (LOps.st rfl rfl rfl (LOp.store rfl rfl rfl rfl vt4 rfl rfl rfl rfl) (LOps.nil (thn_n (LW.seq (LW.region (LOps.st rfl rfl rfl (LOp.move rfl rfl) ?_)))))))))))
    refine LOps.st rfl rfl rfl (LOp.move rfl rfl) (LOps.st rfl rfl rfl (LOp.bin rfl rfl rfl rfl) (LOps.st rfl rfl rfl (LOp.assign rfl rfl) (LOps.nil (thn_n (LW.ret ?_)))))
    obtain rfl := Option.some.inj hr
    refine fin_ret (.one (.tmp rfl)) ?_
    exact ⟨rfl, rfl⟩
def F135 (b : Bk) (wB : List Bk) (sm : List (ID × Int)) (upto : Int) (full : Bool) : Option (Bool × List Bk × List (ID × Int) × Bool) :=
  (
    bif (findE sm (nm b)).isSome then
      some ((findE sm (nm b)).isSome)
    else
      bif (findE sm b.Parent).isSome then
        some (decide (((findE sm b.Parent).getD 0) ≥ b.Slot))
      else
        some false
  ).bind fun v1 =>
  bif v1 then
    some (true, wB, sm, full)
  else
    (
      bif !((findE sm b.Parent).isSome) then
        some (!((findE sm b.Parent).isSome), full)
      else
        bif decide (b.Slot > upto) then
          some (decide (b.Slot > upto), full)
        else
          (F159 (wB.length : Int) 60 full).bind fun v3 =>
          some (!v3.1, v3.2)
    ).bind fun v2 =>
    bif v2.1 then
      some (false, wB, sm, v2.2)
    else
      bif room wB.length [b].length 40 then
        bif fewE sm then
          some (true, wB ++ [b], setE sm (nm b) b.Slot, v2.2)
        else none
      else none
set_option maxRecDepth 100000 in
theorem cF135 {b : Bk} {wB : List Bk} {wV : List Vt} {sm : List (ID × Int)} {hm : List (Vt × Bool)} {upto : Int} {full : Bool} {lB : List Bk} {lV : List Vt} {n0 : Nat} {k0 : Nat} {n1 : Nat} {k1 : Nat} {r_ : Bool × List Bk × List (ID × Int) × Bool} (hr : F135 b wB sm upto full = some r_) : LC Tryz.prog 153 [.ptr 10 0, .p (blkP b)] [.dead, .dead, .dead, .box [.zs, .zs], .box [.zs, .zs], .dead, .vec 5 (wB.map blkP), .vec 4 (wV.map vtP), .map (entsOf idP (fun v => .p (.int .i64 v)) sm), .map (entsOf vtP (fun v => .p (.bool v)) hm), .box [.vec 5 6 (wB.map blkP).length 0 (wB.map blkP).length, .vec 4 7 (wV.map vtP).length 0 (wV.map vtP).length, .map 8, .map 9, .p (.int .i64 upto), .p (.bool full)], .dead, .dead, .dead, .vec 5 (lB.map blkP), .vec 4 (lV.map vtP), .box [.vec 5 14 n0 0 k0, .vec 4 15 n1 0 k1]] (Is (.p (.bool r_.1)) [.dead, .dead, .dead, .box [.zs, .zs], .box [.zs, .zs], .dead, .vec 5 (r_.2.1.map blkP), .vec 4 (wV.map vtP), .map (entsOf idP (fun v => .p (.int .i64 v)) r_.2.2.1), .map (entsOf vtP (fun v => .p (.bool v)) hm), .box [.vec 5 6 (r_.2.1.map blkP).length 0 (r_.2.1.map blkP).length, .vec 4 7 (wV.map vtP).length 0 (wV.map vtP).length, .map 8, .map 9, .p (.int .i64 upto), .p (.bool r_.2.2.2)], .dead, .dead, .dead, .vec 5 (lB.map blkP), .vec 4 (lV.map vtP), .box [.vec 5 14 n0 0 k0, .vec 4 15 n1 0 k1]]) := by
  refine LC.start Tryz.func153 rfl rfl rfl ?_
  unfold F135 at hr
  refine LW.seq (LW.region (LOps.st rfl rfl rfl (LOp.box rfl rfl rfl rfl rfl) (LOps.st rfl rfl rfl (LOp.assign rfl rfl) (LOps.nil (thn_n (LW.seq (LW.region (LOps.st rfl rfl rfl (LOp.load rfl rfl rfl vt42 rfl rfl) (LOps.st rfl rfl rfl (LOp.call rfl rfl rfl (by kernel_rfl) (LC.pure (c50 (b := b)) (.cons Conv.p .nil))) (LOps.st rfl rfl rfl (LOp.alloc rfl zt24 rfl rfl) (LOps.st rfl rfl rfl (LOp.store rfl rfl rfl rfl vt24 rfl rfl rfl rfl) ?_)))))))))))
  refine LOps.nil (thn_n (LW.seq (LW.draw (by kernel_rfl) (by kernel_rfl) (LO.st rfl rfl rfl (LOp.move rfl rfl) (LO.st rfl rfl rfl (LOp.nilCheck rfl rfl) (LO.st rfl rfl rfl (LOp.fieldAddr rfl rfl ft149_1) (LO.st rfl rfl rfl (LOp.load rfl rfl rfl vt91 rfl rfl) (LO.st rfl rfl rfl (LOp.load rfl rfl rfl vt24 rfl rfl) ?_))))))))
  refine LO.st rfl rfl rfl (LOp.getX (f := idP) (g := (fun v => .p (.int .i64 v))) (nm b) 0 idKey rfl rfl rfl rfl mt91 zl3 rfl rfl) ?_
  refine LO.st rfl rfl rfl (LOp.move rfl rfl) (LO.st rfl rfl rfl (LOp.extract rfl rfl rfl) (LO.st rfl rfl rfl (LOp.extract rfl rfl rfl) (LO.st rfl rfl rfl (LOp.assign rfl rfl) (LO.st rfl rfl rfl (LOp.assign rfl rfl) (LO.nil (thn_n (LW.seq (LW.draw (by kernel_rfl) (by kernel_rfl) (LO.st rfl rfl rfl (LOp.move rfl rfl) (LO.st rfl rfl rfl (LOp.nilCheck rfl rfl) (LO.st rfl rfl rfl (LOp.fieldAddr rfl rfl ft149_1) ?_)))))))))))
  refine LO.st rfl rfl rfl (LOp.load rfl rfl rfl vt91 rfl rfl) (LO.st rfl rfl rfl (LOp.fieldAddr rfl rfl ft42_2) (LO.st rfl rfl rfl (LOp.load rfl rfl rfl vt24 rfl rfl) ?_))
  refine LO.st rfl rfl rfl (LOp.getX (f := idP) (g := (fun v => .p (.int .i64 v))) b.Parent 0 idKey rfl rfl rfl rfl mt91 zl3 rfl rfl) ?_
  refine LO.st rfl rfl rfl (LOp.move rfl rfl) (LO.st rfl rfl rfl (LOp.extract rfl rfl rfl) (LO.st rfl rfl rfl (LOp.extract rfl rfl rfl) (LO.st rfl rfl rfl (LOp.assign rfl rfl) (LO.st rfl rfl rfl (LOp.assign rfl rfl) (LO.nil (thn_n (LW.seq (LW.block ?_))))))))
  obtain ⟨v1, hb_v1, ho_v1⟩ := bind_get hr
  clear hr
  refine LW.cut (E := [(0, .ptr 10 0), (3, .ptr 17 0), (4, .p (.bool false)), (5, .ptr 18 0), (9, .p (.bool ((findE sm b.Parent).isSome))), (31, .p (.bool v1))]) (O := [.dead, .dead, .dead, .box [.zs, .zs], .box [.zs, .zs], .dead, .vec 5 (wB.map blkP), .vec 4 (wV.map vtP), .map (entsOf idP (fun v => .p (.int .i64 v)) sm), .map (entsOf vtP (fun v => .p (.bool v)) hm), .box [.vec 5 6 (wB.map blkP).length 0 (wB.map blkP).length, .vec 4 7 (wV.map vtP).length 0 (wV.map vtP).length, .map 8, .map 9, .p (.int .i64 upto), .p (.bool full)], .dead, .dead, .dead, .vec 5 (lB.map blkP), .vec 4 (lV.map vtP), .box [.vec 5 14 n0 0 k0, .vec 4 15 n1 0 k1], .box [.p (.int .i64 b.Slot), .p (.int .i64 b.From), .p (.int .u64 b.Parent.1), .p (.int .u64 b.Parent.2), .p (.int .u64 b.Salt)], .box [.p (.int .u64 ((nm b).1)), .p (.int .u64 ((nm b).2))]]) ?_ ?_
  · have hr := hb_v1
    refine LW.seq (LW.region (LOps.st rfl rfl rfl (LOp.move rfl rfl) (LOps.st rfl rfl rfl (LOp.assign rfl rfl) (LOps.nil (thn_n ?_)))))
    refine LW.cond rfl (fun (g1 : ((findE sm (nm b)).isSome) = true) => ?_) (fun (g1 : ((findE sm (nm b)).isSome) = false) => ?_)
    ·
      have hr := ite_t g1 hr
      refine LW.skip (thn_n ?_)
      obtain rfl := Option.some.inj hr
      exact Weak.of 19 ⟨rfl, rfl, rfl, rfl, rfl, rfl, trivial⟩ rfl rfl rfl (lowObjs_cons rfl (lowObjs_cons rfl (lowObjs_cons rfl (lowObjs_cons rfl (lowObjs_cons rfl (lowObjs_cons rfl (lowObjs_cons rfl (lowObjs_cons rfl (lowObjs_cons (entsLow (fun _ => rfl) _) (lowObjs_cons (entsLow (fun _ => rfl) _) (lowObjs_cons rfl (lowObjs_cons rfl (lowObjs_cons rfl (lowObjs_cons rfl (lowObjs_cons rfl (lowObjs_cons rfl (lowObjs_cons rfl (lowObjs_cons rfl (lowObjs_cons rfl rfl)))))))))))))))))))
    ·
      have hr := ite_f g1 hr
      refine LW.region (LOps.st rfl rfl rfl (LOp.move rfl rfl) (LOps.st rfl rfl rfl (LOp.move rfl rfl) ?_))
      refine LOps.cases 34 rfl (fun (g2 : ((findE sm b.Parent).isSome) = true) => ?_) (fun (g2 : ((findE sm b.Parent).isSome) = false) => ?_)
      ·
        have hr := ite_t g2 hr
        refine LOps.gd rfl rfl rfl (gd g2 rfl) rfl (LOp.move rfl rfl) (LOps.gd rfl rfl rfl (gd g2 rfl) rfl (LOp.fieldAddr rfl rfl ft42_0) (LOps.gd rfl rfl rfl (gd g2 rfl) rfl (LOp.load rfl rfl rfl vt3 rfl rfl) (LOps.gd rfl rfl rfl (gd g2 rfl) rfl (LOp.bin rfl rfl rfl rfl) (LOps.st rfl rfl rfl (LOp.pickT rfl (gdl g2 rfl) rfl) (LOps.st rfl rfl rfl (LOp.assign rfl rfl) (LOps.nil (thn_n ?_)))))))
        obtain rfl := Option.some.inj hr
        exact Weak.of 19 ⟨rfl, rfl, rfl, rfl, rfl, rfl, trivial⟩ rfl rfl rfl (lowObjs_cons rfl (lowObjs_cons rfl (lowObjs_cons rfl (lowObjs_cons rfl (lowObjs_cons rfl (lowObjs_cons rfl (lowObjs_cons rfl (lowObjs_cons rfl (lowObjs_cons (entsLow (fun _ => rfl) _) (lowObjs_cons (entsLow (fun _ => rfl) _) (lowObjs_cons rfl (lowObjs_cons rfl (lowObjs_cons rfl (lowObjs_cons rfl (lowObjs_cons rfl (lowObjs_cons rfl (lowObjs_cons rfl (lowObjs_cons rfl (lowObjs_cons rfl rfl)))))))))))))))))))
      ·
        have hr := ite_f g2 hr
        refine LOps.sk rfl rfl rfl (gd g2 rfl) rfl rfl (LOps.sk rfl rfl rfl (gd g2 rfl) rfl rfl (LOps.sk rfl rfl rfl (gd g2 rfl) rfl rfl (LOps.sk rfl rfl rfl (gd g2 rfl) rfl rfl (LOps.st rfl rfl rfl (LOp.pickF rfl (gdl g2 rfl) rfl) (LOps.st rfl rfl rfl (LOp.assign rfl rfl) (LOps.nil (thn_n ?_)))))))
        obtain rfl := Option.some.inj hr
        exact Weak.of 19 ⟨rfl, rfl, rfl, rfl, rfl, rfl, trivial⟩ rfl rfl rfl (lowObjs_cons rfl (lowObjs_cons rfl (lowObjs_cons rfl (lowObjs_cons rfl (lowObjs_cons rfl (lowObjs_cons rfl (lowObjs_cons rfl (lowObjs_cons rfl (lowObjs_cons (entsLow (fun _ => rfl) _) (lowObjs_cons (entsLow (fun _ => rfl) _) (lowObjs_cons rfl (lowObjs_cons rfl (lowObjs_cons rfl (lowObjs_cons rfl (lowObjs_cons rfl (lowObjs_cons rfl (lowObjs_cons rfl (lowObjs_cons rfl (lowObjs_cons rfl rfl)))))))))))))))))))
  · have hr := ho_v1
    clear hb_v1
    refine LW.cond rfl (fun (g3 : v1 = true) => ?_) (fun (g3 : v1 = false) => ?_)
    ·
      have hr := ite_t g3 hr
      refine LW.seq (LW.region (LOps.st rfl rfl rfl (LOp.assign rfl rfl) (LOps.nil (thn_n (LW.ret (inBlk_r (thn_r ?_)))))))
      obtain rfl := Option.some.inj hr
      refine fin_retW (env' := [(4, .p (.bool true))]) (H' := [.dead, .dead, .dead, .box [.zs, .zs], .box [.zs, .zs], .dead, .vec 5 (wB.map blkP), .vec 4 (wV.map vtP), .map (entsOf idP (fun v => .p (.int .i64 v)) sm), .map (entsOf vtP (fun v => .p (.bool v)) hm), .box [.vec 5 6 (wB.map blkP).length 0 (wB.map blkP).length, .vec 4 7 (wV.map vtP).length 0 (wV.map vtP).length, .map 8, .map 9, .p (.int .i64 upto), .p (.bool full)], .dead, .dead, .dead, .vec 5 (lB.map blkP), .vec 4 (lV.map vtP), .box [.vec 5 14 n0 0 k0, .vec 4 15 n1 0 k1]]) (Weak.of 17 ⟨rfl, trivial⟩ rfl rfl rfl (lowObjs_cons rfl (lowObjs_cons rfl (lowObjs_cons rfl (lowObjs_cons rfl (lowObjs_cons rfl (lowObjs_cons rfl (lowObjs_cons rfl (lowObjs_cons rfl (lowObjs_cons (entsLow (fun _ => rfl) _) (lowObjs_cons (entsLow (fun _ => rfl) _) (lowObjs_cons rfl (lowObjs_cons rfl (lowObjs_cons rfl (lowObjs_cons rfl (lowObjs_cons rfl (lowObjs_cons rfl (lowObjs_cons rfl rfl)))))))))))))))))) (.one (.tmp rfl)) ?_
      exact ⟨rfl, rfl⟩
    ·
      have hr := ite_f g3 hr
      obtain ⟨v2, hb_v2, ho_v2⟩ := bind_get hr
      clear hr
      refine LW.cut (E := [(0, .ptr 10 0), (3, .ptr 17 0), (4, .p (.bool false)), (5, .ptr 18 0), (40, .p (.bool v2.1))]) (O := [.dead, .dead, .dead, .box [.zs, .zs], .box [.zs, .zs], .dead, .vec 5 (wB.map blkP), .vec 4 (wV.map vtP), .map (entsOf idP (fun v => .p (.int .i64 v)) sm), .map (entsOf vtP (fun v => .p (.bool v)) hm), .box [.vec 5 6 (wB.map blkP).length 0 (wB.map blkP).length, .vec 4 7 (wV.map vtP).length 0 (wV.map vtP).length, .map 8, .map 9, .p (.int .i64 upto), .p (.bool v2.2)], .dead, .dead, .dead, .vec 5 (lB.map blkP), .vec 4 (lV.map vtP), .box [.vec 5 14 n0 0 k0, .vec 4 15 n1 0 k1], .box [.p (.int .i64 b.Slot), .p (.int .i64 b.From), .p (.int .u64 b.Parent.1), .p (.int .u64 b.Parent.2), .p (.int .u64 b.Salt)], .box [.p (.int .u64 ((nm b).1)), .p (.int .u64 ((nm b).2))]]) ?_ ?_
      · have hr := hb_v2
        refine LW.seq (LW.region (LOps.st rfl rfl rfl (LOp.move rfl rfl) (LOps.st rfl rfl rfl (LOp.not rfl rfl) (LOps.st rfl rfl rfl (LOp.assign rfl rfl) (LOps.nil (thn_n ?_))))))
        refine LW.cond rfl (fun (g4 : (!((findE sm b.Parent).isSome)) = true) => ?_) (fun (g4 : (!((findE sm b.Parent).isSome)) = false) => ?_)
        ·
          have hr := ite_t g4 hr
          refine LW.skip (thn_n ?_)
          obtain rfl := Option.some.inj hr
          exact Weak.of 19 ⟨rfl, rfl, rfl, rfl, rfl, trivial⟩ rfl rfl rfl (lowObjs_cons rfl (lowObjs_cons rfl (lowObjs_cons rfl (lowObjs_cons rfl (lowObjs_cons rfl (lowObjs_cons rfl (lowObjs_cons rfl (lowObjs_cons rfl (lowObjs_cons (entsLow (fun _ => rfl) _) (lowObjs_cons (entsLow (fun _ => rfl) _) (lowObjs_cons rfl (lowObjs_cons rfl (lowObjs_cons rfl (lowObjs_cons rfl (lowObjs_cons rfl (lowObjs_cons rfl (lowObjs_cons rfl (lowObjs_cons rfl (lowObjs_cons rfl rfl)))))))))))))))))))
        ·
          have hr := ite_f g4 hr
          refine LW.seq (LW.draw (by kernel_rfl) (by kernel_rfl) (LO.st rfl rfl rfl (LOp.fieldAddr rfl rfl ft42_0) (LO.st rfl rfl rfl (LOp.load rfl rfl rfl vt3 rfl rfl) (LO.st rfl rfl rfl (LOp.move rfl rfl) (LO.st rfl rfl rfl (LOp.nilCheck rfl rfl) (LO.st rfl rfl rfl (LOp.fieldAddr rfl rfl ft149_3) (LO.st rfl rfl rfl (LOp.load rfl rfl rfl vt3 rfl rfl) (LO.st rfl rfl rfl (LOp.bin rfl rfl rfl rfl) (LO.st rfl rfl rfl (LOp.assign rfl rfl) (LO.nil (thn_n ?_)))))))))))
          refine LW.cond rfl (fun (g5 : (decide (b.Slot > upto)) = true) => ?_) (fun (g5 : (decide (b.Slot > upto)) = false) => ?_)
          ·
            have hr := ite_t g5 hr
            refine LW.skip (thn_n ?_)
            obtain rfl := Option.some.inj hr
            exact Weak.of 19 ⟨rfl, rfl, rfl, rfl, rfl, trivial⟩ rfl rfl rfl (lowObjs_cons rfl (lowObjs_cons rfl (lowObjs_cons rfl (lowObjs_cons rfl (lowObjs_cons rfl (lowObjs_cons rfl (lowObjs_cons rfl (lowObjs_cons rfl (lowObjs_cons (entsLow (fun _ => rfl) _) (lowObjs_cons (entsLow (fun _ => rfl) _) (lowObjs_cons rfl (lowObjs_cons rfl (lowObjs_cons rfl (lowObjs_cons rfl (lowObjs_cons rfl (lowObjs_cons rfl (lowObjs_cons rfl (lowObjs_cons rfl (lowObjs_cons rfl rfl)))))))))))))))))))
          ·
            have hr := ite_f g5 hr
            refine LW.region (LOps.st rfl rfl rfl (LOp.move rfl rfl) (LOps.st rfl rfl rfl (LOp.move rfl rfl) (LOps.st rfl rfl rfl (LOp.nilCheck rfl rfl) (LOps.st rfl rfl rfl (LOp.fieldAddr rfl rfl ft149_0) (LOps.st rfl rfl rfl (LOp.fieldAddr rfl rfl ft75_0) (LOps.st rfl rfl rfl (LOp.load rfl rfl rfl vt27 rfl rfl) (LOps.st rfl rfl rfl (LOp.lenVM rfl rfl rfl (by kernel_rfl)) ?_)))))))
            obtain ⟨v3, h_v3, hr⟩ := bind_get hr
            refine LOps.st rfl rfl rfl (LOp.call rfl rfl rfl (by kernel_rfl) (LC.pre (cF159 h_v3) rfl (lowObjs_cons rfl (lowObjs_cons rfl (lowObjs_cons rfl (lowObjs_cons rfl (lowObjs_cons rfl (lowObjs_cons rfl (lowObjs_cons rfl (lowObjs_cons rfl (lowObjs_cons (entsLow (fun _ => rfl) _) (lowObjs_cons (entsLow (fun _ => rfl) _) (lowObjs_cons rfl (lowObjs_cons rfl (lowObjs_cons rfl (lowObjs_cons rfl (lowObjs_cons rfl (lowObjs_cons rfl (lowObjs_cons rfl rfl))))))))))))))))) rfl)) ?_
            refine LOps.st rfl rfl rfl (LOp.not rfl rfl) (LOps.st rfl rfl rfl (LOp.assign rfl rfl) (LOps.nil (thn_n ?_)))
            obtain rfl := Option.some.inj hr
            exact Weak.of 19 ⟨rfl, rfl, rfl, rfl, rfl, trivial⟩ rfl rfl rfl (lowObjs_cons rfl (lowObjs_cons rfl (lowObjs_cons rfl (lowObjs_cons rfl (lowObjs_cons rfl (lowObjs_cons rfl (lowObjs_cons rfl (lowObjs_cons rfl (lowObjs_cons (entsLow (fun _ => rfl) _) (lowObjs_cons (entsLow (fun _ => rfl) _) (lowObjs_cons rfl (lowObjs_cons rfl (lowObjs_cons rfl (lowObjs_cons rfl (lowObjs_cons rfl (lowObjs_cons rfl (lowObjs_cons rfl (lowObjs_cons rfl (lowObjs_cons rfl rfl)))))))))))))))))))
      · have hr := ho_v2
        clear hb_v2
        refine LW.cond rfl (fun (g6 : v2.1 = true) => ?_) (fun (g6 : v2.1 = false) => ?_)
        ·
          have hr := ite_t g6 hr
          refine LW.seq (LW.region (LOps.st rfl rfl rfl (LOp.assign rfl rfl) (LOps.nil (thn_n (LW.ret (inBlk_r (thn_r ?_)))))))
          obtain rfl := Option.some.inj hr
          refine fin_retW (env' := [(4, .p (.bool false))]) (H' := [.dead, .dead, .dead, .box [.zs, .zs], .box [.zs, .zs], .dead, .vec 5 (wB.map blkP), .vec 4 (wV.map vtP), .map (entsOf idP (fun v => .p (.int .i64 v)) sm), .map (entsOf vtP (fun v => .p (.bool v)) hm), .box [.vec 5 6 (wB.map blkP).length 0 (wB.map blkP).length, .vec 4 7 (wV.map vtP).length 0 (wV.map vtP).length, .map 8, .map 9, .p (.int .i64 upto), .p (.bool v2.2)], .dead, .dead, .dead, .vec 5 (lB.map blkP), .vec 4 (lV.map vtP), .box [.vec 5 14 n0 0 k0, .vec 4 15 n1 0 k1]]) (Weak.of 17 ⟨rfl, trivial⟩ rfl rfl rfl (lowObjs_cons rfl (lowObjs_cons rfl (lowObjs_cons rfl (lowObjs_cons rfl (lowObjs_cons rfl (lowObjs_cons rfl (lowObjs_cons rfl (lowObjs_cons rfl (lowObjs_cons (entsLow (fun _ => rfl) _) (lowObjs_cons (entsLow (fun _ => rfl) _) (lowObjs_cons rfl (lowObjs_cons rfl (lowObjs_cons rfl (lowObjs_cons rfl (lowObjs_cons rfl (lowObjs_cons rfl (lowObjs_cons rfl rfl)))))))))))))))))) (.one (.tmp rfl)) ?_
          exact ⟨rfl, rfl⟩
        ·
          have hr := ite_f g6 hr
          refine LW.skip (inBlk_n (thn_n (LW.seq (LW.drawW (by kernel_rfl) (by kernel_rfl) ?_))))
          refine LF.st (F := []) (s := none) rfl rfl rfl (fun H _ => LOp.move rfl rfl) rfl ?_
          refine LF.st (F := []) (s := none) rfl rfl rfl (fun H _ => LOp.move rfl rfl) rfl ?_
          refine LF.st (F := []) (s := none) rfl rfl rfl (fun H _ => LOp.nilCheck rfl rfl) rfl ?_
          refine LF.st (F := []) (s := none) rfl rfl rfl (fun H _ => LOp.fieldAddr rfl rfl ft149_1) rfl ?_
          refine LF.st rfl rfl rfl (LAt.load rfl rfl rfl vt91 rfl rfl) rfl (LF.st rfl rfl rfl (LAt.load rfl rfl rfl vt24 rfl rfl) rfl ?_)
          refine LF.st (F := []) (s := none) rfl rfl rfl (fun H _ => LOp.move rfl rfl) rfl ?_
          refine LF.st (F := []) (s := none) rfl rfl rfl (fun H _ => LOp.nilCheck rfl rfl) rfl ?_
          refine LF.st (F := []) (s := none) rfl rfl rfl (fun H _ => LOp.fieldAddr rfl rfl ft149_0) rfl ?_
          refine LF.st (F := []) (s := none) rfl rfl rfl (fun H _ => LOp.fieldAddr rfl rfl ft75_0) rfl ?_
          refine LF.st rfl rfl rfl (LAt.load rfl rfl rfl vt27 rfl rfl) rfl (LF.st rfl rfl rfl (LAt.load rfl rfl rfl vt42 rfl rfl) rfl ?_)
          refine LF.st (F := []) (s := none) rfl rfl rfl (fun H _ => LOp.buildSlice rfl st27 rfl rfl rfl rfl rfl) rfl ?_
          obtain ⟨q1, hr⟩ := grd_get hr
          refine LF.st rfl rfl rfl (LAt.appendX blkP wB [b] rfl rfl rfl rfl rfl st27 q1) rfl ?_
          refine LF.st (F := []) (s := none) rfl rfl rfl (fun H _ => LOp.fieldAddr rfl rfl ft42_0) rfl ?_
          refine LF.st rfl rfl rfl (LAt.load rfl rfl rfl vt3 rfl rfl) rfl ?_
          refine LF.st (F := []) (s := none) rfl rfl rfl (fun H _ => LOp.nilCheck rfl rfl) rfl ?_
          refine LF.st (F := []) (s := none) rfl rfl rfl (fun H _ => LOp.fieldAddr rfl rfl ft149_0) rfl ?_
          refine LF.st (F := []) (s := none) rfl rfl rfl (fun H _ => LOp.fieldAddr rfl rfl ft75_0) rfl ?_
          refine LF.st rfl rfl rfl (LAt.store rfl rfl rfl rfl vt27 rfl rfl rfl) rfl ?_
          obtain ⟨q2, hr⟩ := grd_get hr
          refine LF.st rfl rfl rfl (LAt.mapEntryX (f := idP) (g := (fun v => .p (.int .i64 v))) (nm b) 0 idKey rfl rfl rfl rfl mt91 zl3 rfl q2) rfl ?_
          refine LF.st (F := []) (s := none) rfl rfl rfl (fun H _ => LOp.extract rfl rfl rfl) rfl ?_
          refine LF.st rfl rfl rfl (LAt.entryStoreX (f := idP) (g := (fun v => .p (.int .i64 v))) (m := sm) (nm b) ((findE sm (nm b)).getD 0) b.Slot idKey rfl rfl rfl rfl rfl rfl) rfl ?_
          refine LF.nil ⟨by kernel_rfl, ?_⟩
          refine thn_n (LW.seq (LW.region (LOps.st rfl rfl rfl (LOp.assign rfl rfl) (LOps.nil (thn_n (LW.ret ?_))))))
          obtain rfl := Option.some.inj hr
          refine fin_retW (env' := [(4, .p (.bool true))]) (H' := [.dead, .dead, .dead, .box [.zs, .zs], .box [.zs, .zs], .dead, .vec 5 ((wB ++ [b]).map blkP), .vec 4 (wV.map vtP), .map (entsOf idP (fun v => .p (.int .i64 v)) (setE sm (nm b) b.Slot)), .map (entsOf vtP (fun v => .p (.bool v)) hm), .box [.vec 5 6 ((wB ++ [b]).map blkP).length 0 ((wB ++ [b]).map blkP).length, .vec 4 7 (wV.map vtP).length 0 (wV.map vtP).length, .map 8, .map 9, .p (.int .i64 upto), .p (.bool v2.2)], .dead, .dead, .dead, .vec 5 (lB.map blkP), .vec 4 (lV.map vtP), .box [.vec 5 14 n0 0 k0, .vec 4 15 n1 0 k1]]) (Weak.of 17 ⟨rfl, trivial⟩ rfl rfl rfl (lowObjs_cons rfl (lowObjs_cons rfl (lowObjs_cons rfl (lowObjs_cons rfl (lowObjs_cons rfl (lowObjs_cons rfl (lowObjs_cons rfl (lowObjs_cons rfl (lowObjs_cons (entsLow (fun _ => rfl) _) (lowObjs_cons (entsLow (fun _ => rfl) _) (lowObjs_cons rfl (lowObjs_cons rfl (lowObjs_cons rfl (lowObjs_cons rfl (lowObjs_cons rfl (lowObjs_cons rfl (lowObjs_cons rfl rfl)))))))))))))))))) (.one (.tmp rfl)) ?_
          exact ⟨rfl, rfl⟩
def F136 (x : Vt) (wV : List Vt) (sm : List (ID × Int)) (hm : List (Vt × Bool)) (upto : Int) (full : Bool) : Option (Bool × List Vt × List (Vt × Bool) × Bool) :=
  (
    bif (findE hm x).getD false then
      some ((findE hm x).getD false)
    else
      bif (findE sm x.Head).isSome then
        some (decide (((findE sm x.Head).getD 0) > x.Slot))
      else
        some false
  ).bind fun v1 =>
  bif v1 then
    some (true, wV, hm, full)
  else
    (
      bif !((findE sm x.Head).isSome) then
        some (!((findE sm x.Head).isSome), full)
      else
        bif decide (x.Slot > upto) then
          some (decide (x.Slot > upto), full)
        else
          (F159 (wV.length : Int) 240 full).bind fun v3 =>
          some (!v3.1, v3.2)
    ).bind fun v2 =>
    bif v2.1 then
      some (false, wV, hm, v2.2)
    else
      bif room wV.length [x].length 32 then
        bif fewE hm then
          some (true, wV ++ [x], setE hm x true, v2.2)
        else none
      else none
set_option maxRecDepth 100000 in
theorem cF136 {x : Vt} {wB : List Bk} {wV : List Vt} {sm : List (ID × Int)} {hm : List (Vt × Bool)} {upto : Int} {full : Bool} {lB : List Bk} {lV : List Vt} {n0 : Nat} {k0 : Nat} {n1 : Nat} {k1 : Nat} {r_ : Bool × List Vt × List (Vt × Bool) × Bool} (hr : F136 x wV sm hm upto full = some r_) : LC Tryz.prog 154 [.ptr 10 0, .p (vtP x)] [.dead, .dead, .dead, .box [.zs, .zs], .box [.zs, .zs], .dead, .vec 5 (wB.map blkP), .vec 4 (wV.map vtP), .map (entsOf idP (fun v => .p (.int .i64 v)) sm), .map (entsOf vtP (fun v => .p (.bool v)) hm), .box [.vec 5 6 (wB.map blkP).length 0 (wB.map blkP).length, .vec 4 7 (wV.map vtP).length 0 (wV.map vtP).length, .map 8, .map 9, .p (.int .i64 upto), .p (.bool full)], .dead, .dead, .dead, .vec 5 (lB.map blkP), .vec 4 (lV.map vtP), .box [.vec 5 14 n0 0 k0, .vec 4 15 n1 0 k1]] (Is (.p (.bool r_.1)) [.dead, .dead, .dead, .box [.zs, .zs], .box [.zs, .zs], .dead, .vec 5 (wB.map blkP), .vec 4 (r_.2.1.map vtP), .map (entsOf idP (fun v => .p (.int .i64 v)) sm), .map (entsOf vtP (fun v => .p (.bool v)) r_.2.2.1), .box [.vec 5 6 (wB.map blkP).length 0 (wB.map blkP).length, .vec 4 7 (r_.2.1.map vtP).length 0 (r_.2.1.map vtP).length, .map 8, .map 9, .p (.int .i64 upto), .p (.bool r_.2.2.2)], .dead, .dead, .dead, .vec 5 (lB.map blkP), .vec 4 (lV.map vtP), .box [.vec 5 14 n0 0 k0, .vec 4 15 n1 0 k1]]) := by
  refine LC.start Tryz.func154 rfl rfl rfl ?_
  unfold F136 at hr
  refine LW.seq (LW.region (LOps.st rfl rfl rfl (LOp.box rfl rfl rfl rfl rfl) (LOps.st rfl rfl rfl (LOp.assign rfl rfl) (LOps.nil (thn_n (LW.seq (LW.draw (by kernel_rfl) (by kernel_rfl) (LO.st rfl rfl rfl (LOp.move rfl rfl) (LO.st rfl rfl rfl (LOp.nilCheck rfl rfl) (LO.st rfl rfl rfl (LOp.fieldAddr rfl rfl ft149_1) (LO.st rfl rfl rfl (LOp.load rfl rfl rfl vt91 rfl rfl) ?_)))))))))))
  refine LO.st rfl rfl rfl (LOp.fieldAddr rfl rfl ft82_2) (LO.st rfl rfl rfl (LOp.load rfl rfl rfl vt24 rfl rfl) ?_)
  refine LO.st rfl rfl rfl (LOp.getX (f := idP) (g := (fun v => .p (.int .i64 v))) x.Head 0 idKey rfl rfl rfl rfl mt91 zl3 rfl rfl) ?_
  refine LO.st rfl rfl rfl (LOp.move rfl rfl) (LO.st rfl rfl rfl (LOp.extract rfl rfl rfl) (LO.st rfl rfl rfl (LOp.extract rfl rfl rfl) (LO.st rfl rfl rfl (LOp.assign rfl rfl) (LO.st rfl rfl rfl (LOp.assign rfl rfl) (LO.nil (thn_n (LW.seq (LW.block ?_))))))))
  obtain ⟨v1, hb_v1, ho_v1⟩ := bind_get hr
  clear hr
  refine LW.cut (E := [(0, .ptr 10 0), (3, .ptr 17 0), (4, .p (.bool false)), (6, .p (.bool ((findE sm x.Head).isSome))), (17, .p (.bool v1))]) (O := [.dead, .dead, .dead, .box [.zs, .zs], .box [.zs, .zs], .dead, .vec 5 (wB.map blkP), .vec 4 (wV.map vtP), .map (entsOf idP (fun v => .p (.int .i64 v)) sm), .map (entsOf vtP (fun v => .p (.bool v)) hm), .box [.vec 5 6 (wB.map blkP).length 0 (wB.map blkP).length, .vec 4 7 (wV.map vtP).length 0 (wV.map vtP).length, .map 8, .map 9, .p (.int .i64 upto), .p (.bool full)], .dead, .dead, .dead, .vec 5 (lB.map blkP), .vec 4 (lV.map vtP), .box [.vec 5 14 n0 0 k0, .vec 4 15 n1 0 k1], .box [.p (.int .i64 x.From), .p (.int .i64 x.Slot), .p (.int .u64 x.Head.1), .p (.int .u64 x.Head.2)]]) ?_ ?_
  · have hr := hb_v1
    refine LW.seq (LW.draw (by kernel_rfl) (by kernel_rfl) (LO.st rfl rfl rfl (LOp.move rfl rfl) (LO.st rfl rfl rfl (LOp.nilCheck rfl rfl) (LO.st rfl rfl rfl (LOp.fieldAddr rfl rfl ft149_2) (LO.st rfl rfl rfl (LOp.load rfl rfl rfl vt147 rfl rfl) (LO.st rfl rfl rfl (LOp.load rfl rfl rfl vt82 rfl rfl) ?_))))))
    refine LO.st rfl rfl rfl (LOp.getX (f := vtP) (g := (fun v => .p (.bool v))) x false vtKey rfl rfl rfl rfl mt147 zl4 rfl rfl) ?_
    refine LO.st rfl rfl rfl (LOp.assign rfl rfl) (LO.nil (thn_n ?_))
    refine LW.cond rfl (fun (g1 : ((findE hm x).getD false) = true) => ?_) (fun (g1 : ((findE hm x).getD false) = false) => ?_)
    ·
      have hr := ite_t g1 hr
      refine LW.skip (thn_n ?_)
      obtain rfl := Option.some.inj hr
      exact Weak.of 18 ⟨rfl, rfl, rfl, rfl, rfl, trivial⟩ rfl rfl rfl (lowObjs_cons rfl (lowObjs_cons rfl (lowObjs_cons rfl (lowObjs_cons rfl (lowObjs_cons rfl (lowObjs_cons rfl (lowObjs_cons rfl (lowObjs_cons rfl (lowObjs_cons (entsLow (fun _ => rfl) _) (lowObjs_cons (entsLow (fun _ => rfl) _) (lowObjs_cons rfl (lowObjs_cons rfl (lowObjs_cons rfl (lowObjs_cons rfl (lowObjs_cons rfl (lowObjs_cons rfl (lowObjs_cons rfl (lowObjs_cons rfl rfl))))))))))))))))))
    ·
      have hr := ite_f g1 hr
      refine LW.region (LOps.st rfl rfl rfl (LOp.move rfl rfl) (LOps.st rfl rfl rfl (LOp.move rfl rfl) ?_))
      refine LOps.cases 25 rfl (fun (g2 : ((findE sm x.Head).isSome) = true) => ?_) (fun (g2 : ((findE sm x.Head).isSome) = false) => ?_)
      ·
        have hr := ite_t g2 hr
        refine LOps.gd rfl rfl rfl (gd g2 rfl) rfl (LOp.move rfl rfl) (LOps.gd rfl rfl rfl (gd g2 rfl) rfl (LOp.fieldAddr rfl rfl ft82_1) (LOps.gd rfl rfl rfl (gd g2 rfl) rfl (LOp.load rfl rfl rfl vt3 rfl rfl) (LOps.gd rfl rfl rfl (gd g2 rfl) rfl (LOp.bin rfl rfl rfl rfl) (LOps.st rfl rfl rfl (LOp.pickT rfl (gdl g2 rfl) rfl) (LOps.st rfl rfl rfl (LOp.assign rfl rfl) (LOps.nil (thn_n ?_)))))))
        obtain rfl := Option.some.inj hr
        exact Weak.of 18 ⟨rfl, rfl, rfl, rfl, rfl, trivial⟩ rfl rfl rfl (lowObjs_cons rfl (lowObjs_cons rfl (lowObjs_cons rfl (lowObjs_cons rfl (lowObjs_cons rfl (lowObjs_cons rfl (lowObjs_cons rfl (lowObjs_cons rfl (lowObjs_cons (entsLow (fun _ => rfl) _) (lowObjs_cons (entsLow (fun _ => rfl) _) (lowObjs_cons rfl (lowObjs_cons rfl (lowObjs_cons rfl (lowObjs_cons rfl (lowObjs_cons rfl (lowObjs_cons rfl (lowObjs_cons rfl (lowObjs_cons rfl rfl))))))))))))))))))
      ·
        have hr := ite_f g2 hr
        refine LOps.sk rfl rfl rfl (gd g2 rfl) rfl rfl (LOps.sk rfl rfl rfl (gd g2 rfl) rfl rfl (LOps.sk rfl rfl rfl (gd g2 rfl) rfl rfl (LOps.sk rfl rfl rfl (gd g2 rfl) rfl rfl (LOps.st rfl rfl rfl (LOp.pickF rfl (gdl g2 rfl) rfl) (LOps.st rfl rfl rfl (LOp.assign rfl rfl) (LOps.nil (thn_n ?_)))))))
        obtain rfl := Option.some.inj hr
        exact Weak.of 18 ⟨rfl, rfl, rfl, rfl, rfl, trivial⟩ rfl rfl rfl (lowObjs_cons rfl (lowObjs_cons rfl (lowObjs_cons rfl (lowObjs_cons rfl (lowObjs_cons rfl (lowObjs_cons rfl (lowObjs_cons rfl (lowObjs_cons rfl (lowObjs_cons (entsLow (fun _ => rfl) _) (lowObjs_cons (entsLow (fun _ => rfl) _) (lowObjs_cons rfl (lowObjs_cons rfl (lowObjs_cons rfl (lowObjs_cons rfl (lowObjs_cons rfl (lowObjs_cons rfl (lowObjs_cons rfl (lowObjs_cons rfl rfl))))))))))))))))))
  · have hr := ho_v1
    clear hb_v1
    refine LW.cond rfl (fun (g3 : v1 = true) => ?_) (fun (g3 : v1 = false) => ?_)
    ·
      have hr := ite_t g3 hr
      refine LW.seq (LW.region (LOps.st rfl rfl rfl (LOp.assign rfl rfl) (LOps.nil (thn_n (LW.ret (inBlk_r (thn_r ?_)))))))
      obtain rfl := Option.some.inj hr
      refine fin_retW (env' := [(4, .p (.bool true))]) (H' := [.dead, .dead, .dead, .box [.zs, .zs], .box [.zs, .zs], .dead, .vec 5 (wB.map blkP), .vec 4 (wV.map vtP), .map (entsOf idP (fun v => .p (.int .i64 v)) sm), .map (entsOf vtP (fun v => .p (.bool v)) hm), .box [.vec 5 6 (wB.map blkP).length 0 (wB.map blkP).length, .vec 4 7 (wV.map vtP).length 0 (wV.map vtP).length, .map 8, .map 9, .p (.int .i64 upto), .p (.bool full)], .dead, .dead, .dead, .vec 5 (lB.map blkP), .vec 4 (lV.map vtP), .box [.vec 5 14 n0 0 k0, .vec 4 15 n1 0 k1]]) (Weak.of 17 ⟨rfl, trivial⟩ rfl rfl rfl (lowObjs_cons rfl (lowObjs_cons rfl (lowObjs_cons rfl (lowObjs_cons rfl (lowObjs_cons rfl (lowObjs_cons rfl (lowObjs_cons rfl (lowObjs_cons rfl (lowObjs_cons (entsLow (fun _ => rfl) _) (lowObjs_cons (entsLow (fun _ => rfl) _) (lowObjs_cons rfl (lowObjs_cons rfl (lowObjs_cons rfl (lowObjs_cons rfl (lowObjs_cons rfl (lowObjs_cons rfl (lowObjs_cons rfl rfl)))))))))))))))))) (.one (.tmp rfl)) ?_
      exact ⟨rfl, rfl⟩
    ·
      have hr := ite_f g3 hr
      obtain ⟨v2, hb_v2, ho_v2⟩ := bind_get hr
      clear hr
      refine LW.cut (E := [(0, .ptr 10 0), (3, .ptr 17 0), (4, .p (.bool false)), (31, .p (.bool v2.1))]) (O := [.dead, .dead, .dead, .box [.zs, .zs], .box [.zs, .zs], .dead, .vec 5 (wB.map blkP), .vec 4 (wV.map vtP), .map (entsOf idP (fun v => .p (.int .i64 v)) sm), .map (entsOf vtP (fun v => .p (.bool v)) hm), .box [.vec 5 6 (wB.map blkP).length 0 (wB.map blkP).length, .vec 4 7 (wV.map vtP).length 0 (wV.map vtP).length, .map 8, .map 9, .p (.int .i64 upto), .p (.bool v2.2)], .dead, .dead, .dead, .vec 5 (lB.map blkP), .vec 4 (lV.map vtP), .box [.vec 5 14 n0 0 k0, .vec 4 15 n1 0 k1], .box [.p (.int .i64 x.From), .p (.int .i64 x.Slot), .p (.int .u64 x.Head.1), .p (.int .u64 x.Head.2)]]) ?_ ?_
      · have hr := hb_v2
        refine LW.seq (LW.region (LOps.st rfl rfl rfl (LOp.move rfl rfl) (LOps.st rfl rfl rfl (LOp.not rfl rfl) (LOps.st rfl rfl rfl (LOp.assign rfl rfl) (LOps.nil (thn_n ?_))))))
        refine LW.cond rfl (fun (g4 : (!((findE sm x.Head).isSome)) = true) => ?_) (fun (g4 : (!((findE sm x.Head).isSome)) = false) => ?_)
        ·
          have hr := ite_t g4 hr
          refine LW.skip (thn_n ?_)
          obtain rfl := Option.some.inj hr
          exact Weak.of 18 ⟨rfl, rfl, rfl, rfl, trivial⟩ rfl rfl rfl (lowObjs_cons rfl (lowObjs_cons rfl (lowObjs_cons rfl (lowObjs_cons rfl (lowObjs_cons rfl (lowObjs_cons rfl (lowObjs_cons rfl (lowObjs_cons rfl (lowObjs_cons (entsLow (fun _ => rfl) _) (lowObjs_cons (entsLow (fun _ => rfl) _) (lowObjs_cons rfl (lowObjs_cons rfl (lowObjs_cons rfl (lowObjs_cons rfl (lowObjs_cons rfl (lowObjs_cons rfl (lowObjs_cons rfl (lowObjs_cons rfl rfl))))))))))))))))))
        ·
          have hr := ite_f g4 hr
          refine LW.seq (LW.draw (by kernel_rfl) (by kernel_rfl) (LO.st rfl rfl rfl (LOp.fieldAddr rfl rfl ft82_1) (LO.st rfl rfl rfl (LOp.load rfl rfl rfl vt3 rfl rfl) (LO.st rfl rfl rfl (LOp.move rfl rfl) (LO.st rfl rfl rfl (LOp.nilCheck rfl rfl) (LO.st rfl rfl rfl (LOp.fieldAddr rfl rfl ft149_3) (LO.st rfl rfl rfl (LOp.load rfl rfl rfl vt3 rfl rfl) (LO.st rfl rfl rfl (LOp.bin rfl rfl rfl rfl) (LO.st rfl rfl rfl (LOp.assign rfl rfl) (LO.nil (thn_n ?_)))))))))))
          refine LW.cond rfl (fun (g5 : (decide (x.Slot > upto)) = true) => ?_) (fun (g5 : (decide (x.Slot > upto)) = false) => ?_)
          ·
            have hr := ite_t g5 hr
            refine LW.skip (thn_n ?_)
            obtain rfl := Option.some.inj hr
            exact Weak.of 18 ⟨rfl, rfl, rfl, rfl, trivial⟩ rfl rfl rfl (lowObjs_cons rfl (lowObjs_cons rfl (lowObjs_cons rfl (lowObjs_cons rfl (lowObjs_cons rfl (lowObjs_cons rfl (lowObjs_cons rfl (lowObjs_cons rfl (lowObjs_cons (entsLow (fun _ => rfl) _) (lowObjs_cons (entsLow (fun _ => rfl) _) (lowObjs_cons rfl (lowObjs_cons rfl (lowObjs_cons rfl (lowObjs_cons rfl (lowObjs_cons rfl (lowObjs_cons rfl (lowObjs_cons rfl (lowObjs_cons rfl rfl))))))))))))))))))
          ·
            have hr := ite_f g5 hr
            refine LW.region (LOps.st rfl rfl rfl (LOp.move rfl rfl) (LOps.st rfl rfl rfl (LOp.move rfl rfl) (LOps.st rfl rfl rfl (LOp.nilCheck rfl rfl) (LOps.st rfl rfl rfl (LOp.fieldAddr rfl rfl ft149_0) (LOps.st rfl rfl rfl (LOp.fieldAddr rfl rfl ft75_1) (LOps.st rfl rfl rfl (LOp.load rfl rfl rfl vt68 rfl rfl) (LOps.st rfl rfl rfl (LOp.lenVM rfl rfl rfl (by kernel_rfl)) ?_)))))))
            obtain ⟨v3, h_v3, hr⟩ := bind_get hr
            refine LOps.st rfl rfl rfl (LOp.call rfl rfl rfl (by kernel_rfl) (LC.pre (cF159 h_v3) rfl (lowObjs_cons rfl (lowObjs_cons rfl (lowObjs_cons rfl (lowObjs_cons rfl (lowObjs_cons rfl (lowObjs_cons rfl (lowObjs_cons rfl (lowObjs_cons rfl (lowObjs_cons (entsLow (fun _ => rfl) _) (lowObjs_cons (entsLow (fun _ => rfl) _) (lowObjs_cons rfl (lowObjs_cons rfl (lowObjs_cons rfl (lowObjs_cons rfl (lowObjs_cons rfl (lowObjs_cons rfl (lowObjs_cons rfl rfl))))))))))))))))) rfl)) ?_
            refine LOps.st rfl rfl rfl (LOp.not rfl rfl) (LOps.st rfl rfl rfl (LOp.assign rfl rfl) (LOps.nil (thn_n ?_)))
            obtain rfl := Option.some.inj hr
            exact Weak.of 18 ⟨rfl, rfl, rfl, rfl, trivial⟩ rfl rfl rfl (lowObjs_cons rfl (lowObjs_cons rfl (lowObjs_cons rfl (lowObjs_cons rfl (lowObjs_cons rfl (lowObjs_cons rfl (lowObjs_cons rfl (lowObjs_cons rfl (lowObjs_cons (entsLow (fun _ => rfl) _) (lowObjs_cons (entsLow (fun _ => rfl) _) (lowObjs_cons rfl (lowObjs_cons rfl (lowObjs_cons rfl (lowObjs_cons rfl (lowObjs_cons rfl (lowObjs_cons rfl (lowObjs_cons rfl (lowObjs_cons rfl rfl))))))))))))))))))
      · have hr := ho_v2
        clear hb_v2
        refine LW.cond rfl (fun (g6 : v2.1 = true) => ?_) (fun (g6 : v2.1 = false) => ?_)
        ·
          have hr := ite_t g6 hr
          refine LW.seq (LW.region (LOps.st rfl rfl rfl (LOp.assign rfl rfl) (LOps.nil (thn_n (LW.ret (inBlk_r (thn_r ?_)))))))
          obtain rfl := Option.some.inj hr
          refine fin_retW (env' := [(4, .p (.bool false))]) (H' := [.dead, .dead, .dead, .box [.zs, .zs], .box [.zs, .zs], .dead, .vec 5 (wB.map blkP), .vec 4 (wV.map vtP), .map (entsOf idP (fun v => .p (.int .i64 v)) sm), .map (entsOf vtP (fun v => .p (.bool v)) hm), .box [.vec 5 6 (wB.map blkP).length 0 (wB.map blkP).length, .vec 4 7 (wV.map vtP).length 0 (wV.map vtP).length, .map 8, .map 9, .p (.int .i64 upto), .p (.bool v2.2)], .dead, .dead, .dead, .vec 5 (lB.map blkP), .vec 4 (lV.map vtP), .box [.vec 5 14 n0 0 k0, .vec 4 15 n1 0 k1]]) (Weak.of 17 ⟨rfl, trivial⟩ rfl rfl rfl (lowObjs_cons rfl (lowObjs_cons rfl (lowObjs_cons rfl (lowObjs_cons rfl (lowObjs_cons rfl (lowObjs_cons rfl (lowObjs_cons rfl (lowObjs_cons rfl (lowObjs_cons (entsLow (fun _ => rfl) _) (lowObjs_cons (entsLow (fun _ => rfl) _) (lowObjs_cons rfl (lowObjs_cons rfl (lowObjs_cons rfl (lowObjs_cons rfl (lowObjs_cons rfl (lowObjs_cons rfl (lowObjs_cons rfl rfl)))))))))))))))))) (.one (.tmp rfl)) ?_
          exact ⟨rfl, rfl⟩
        ·
          have hr := ite_f g6 hr
          refine LW.skip (inBlk_n (thn_n (LW.seq (LW.drawW (by kernel_rfl) (by kernel_rfl) ?_))))
          refine LF.st (F := []) (s := none) rfl rfl rfl (fun H _ => LOp.move rfl rfl) rfl ?_
          refine LF.st (F := []) (s := none) rfl rfl rfl (fun H _ => LOp.move rfl rfl) rfl ?_
          refine LF.st (F := []) (s := none) rfl rfl rfl (fun H _ => LOp.nilCheck rfl rfl) rfl ?_
          refine LF.st (F := []) (s := none) rfl rfl rfl (fun H _ => LOp.fieldAddr rfl rfl ft149_2) rfl ?_
          refine LF.st rfl rfl rfl (LAt.load rfl rfl rfl vt147 rfl rfl) rfl (LF.st rfl rfl rfl (LAt.load rfl rfl rfl vt82 rfl rfl) rfl ?_)
          refine LF.st (F := []) (s := none) rfl rfl rfl (fun H _ => LOp.move rfl rfl) rfl ?_
          refine LF.st (F := []) (s := none) rfl rfl rfl (fun H _ => LOp.nilCheck rfl rfl) rfl ?_
          refine LF.st (F := []) (s := none) rfl rfl rfl (fun H _ => LOp.fieldAddr rfl rfl ft149_0) rfl ?_
          refine LF.st (F := []) (s := none) rfl rfl rfl (fun H _ => LOp.fieldAddr rfl rfl ft75_1) rfl ?_
          refine LF.st rfl rfl rfl (LAt.load rfl rfl rfl vt68 rfl rfl) rfl (LF.st rfl rfl rfl (LAt.load rfl rfl rfl vt82 rfl rfl) rfl ?_)
          refine LF.st (F := []) (s := none) rfl rfl rfl (fun H _ => LOp.buildSlice rfl st68 rfl rfl rfl rfl rfl) rfl ?_
          obtain ⟨q1, hr⟩ := grd_get hr
          refine LF.st rfl rfl rfl (LAt.appendX vtP wV [x] rfl rfl rfl rfl rfl st68 q1) rfl ?_
          refine LF.st (F := []) (s := none) rfl rfl rfl (fun H _ => LOp.nilCheck rfl rfl) rfl ?_
          refine LF.st (F := []) (s := none) rfl rfl rfl (fun H _ => LOp.fieldAddr rfl rfl ft149_0) rfl ?_
          refine LF.st (F := []) (s := none) rfl rfl rfl (fun H _ => LOp.fieldAddr rfl rfl ft75_1) rfl ?_
          refine LF.st rfl rfl rfl (LAt.store rfl rfl rfl rfl vt68 rfl rfl rfl) rfl ?_
          obtain ⟨q2, hr⟩ := grd_get hr
          refine LF.st rfl rfl rfl (LAt.mapEntryX (f := vtP) (g := (fun v => .p (.bool v))) x false vtKey rfl rfl rfl rfl mt147 zl4 rfl q2) rfl ?_
          refine LF.st (F := []) (s := none) rfl rfl rfl (fun H _ => LOp.extract rfl rfl rfl) rfl ?_
          refine LF.st rfl rfl rfl (LAt.entryStoreX (f := vtP) (g := (fun v => .p (.bool v))) (m := hm) x ((findE hm x).getD false) true vtKey rfl rfl rfl rfl rfl rfl) rfl ?_
          refine LF.nil ⟨by kernel_rfl, ?_⟩
          refine thn_n (LW.seq (LW.region (LOps.st rfl rfl rfl (LOp.assign rfl rfl) (LOps.nil (thn_n (LW.ret ?_))))))
          obtain rfl := Option.some.inj hr
          refine fin_retW (env' := [(4, .p (.bool true))]) (H' := [.dead, .dead, .dead, .box [.zs, .zs], .box [.zs, .zs], .dead, .vec 5 (wB.map blkP), .vec 4 ((wV ++ [x]).map vtP), .map (entsOf idP (fun v => .p (.int .i64 v)) sm), .map (entsOf vtP (fun v => .p (.bool v)) (setE hm x true)), .box [.vec 5 6 (wB.map blkP).length 0 (wB.map blkP).length, .vec 4 7 ((wV ++ [x]).map vtP).length 0 ((wV ++ [x]).map vtP).length, .map 8, .map 9, .p (.int .i64 upto), .p (.bool v2.2)], .dead, .dead, .dead, .vec 5 (lB.map blkP), .vec 4 (lV.map vtP), .box [.vec 5 14 n0 0 k0, .vec 4 15 n1 0 k1]]) (Weak.of 17 ⟨rfl, trivial⟩ rfl rfl rfl (lowObjs_cons rfl (lowObjs_cons rfl (lowObjs_cons rfl (lowObjs_cons rfl (lowObjs_cons rfl (lowObjs_cons rfl (lowObjs_cons rfl (lowObjs_cons rfl (lowObjs_cons (entsLow (fun _ => rfl) _) (lowObjs_cons (entsLow (fun _ => rfl) _) (lowObjs_cons rfl (lowObjs_cons rfl (lowObjs_cons rfl (lowObjs_cons rfl (lowObjs_cons rfl (lowObjs_cons rfl (lowObjs_cons rfl rfl)))))))))))))))))) (.one (.tmp rfl)) ?_
          exact ⟨rfl, rfl⟩
structure F160_L1 where
  t8 : Int
  o6 : List Bk
  o8 : List (ID × Int)
  o10_5 : Bool
def F160_s1 (lB : List Bk) (kk : Nat) (upto : Int) (x1 : F160_L1) : Option (F160_L1 ⊕ (F160_L1 ⊕ (Int × List Bk × List (ID × Int) × Bool))) :=
  bif decide (x1.t8 < (kk : Int)) then
    (ix (lB.take kk) x1.t8).bind fun y1 =>
    (F135 y1 x1.o6 x1.o8 upto x1.o10_5).bind fun v2 =>
    bif v2.1 then
      some (.inr (.inr (x1.t8, v2.2.1, v2.2.2.1, v2.2.2.2)))
    else
      some (.inl (F160_L1.mk (IntKind.i64.wrap (x1.t8 + 1)) v2.2.1 v2.2.2.1 v2.2.2.2))
  else
    some (.inr (.inl (F160_L1.mk x1.t8 x1.o6 x1.o8 x1.o10_5)))
def F160 (lB : List Bk) (kk : Nat) (wB : List Bk) (sm : List (ID × Int)) (upto : Int) (full : Bool) : Option (Int × List Bk × List (ID × Int) × Bool) :=
  (iter (F160_s1 lB kk upto) big (F160_L1.mk 0 wB sm full)).bind fun b_v1 => Sum.elim (fun v1 =>
    some ((-1), v1.o6, v1.o8, v1.o10_5)) some b_v1
set_option maxRecDepth 100000 in
theorem cF160 {lB : List Bk} {kk : Nat} {wB : List Bk} {wV : List Vt} {sm : List (ID × Int)} {hm : List (Vt × Bool)} {upto : Int} {full : Bool} {lV : List Vt} {n0 : Nat} {k0 : Nat} {n1 : Nat} {k1 : Nat} {r_ : Int × List Bk × List (ID × Int) × Bool} (hr : F160 lB kk wB sm upto full = some r_) : LC Tryz.prog 184 [.vec 5 14 (lB.map blkP).length 0 kk, .fn 153 [.ptr 10 0] []] [.dead, .dead, .dead, .box [.zs, .zs], .box [.zs, .zs], .dead, .vec 5 (wB.map blkP), .vec 4 (wV.map vtP), .map (entsOf idP (fun v => .p (.int .i64 v)) sm), .map (entsOf vtP (fun v => .p (.bool v)) hm), .box [.vec 5 6 (wB.map blkP).length 0 (wB.map blkP).length, .vec 4 7 (wV.map vtP).length 0 (wV.map vtP).length, .map 8, .map 9, .p (.int .i64 upto), .p (.bool full)], .dead, .dead, .dead, .vec 5 (lB.map blkP), .vec 4 (lV.map vtP), .box [.vec 5 14 n0 0 k0, .vec 4 15 n1 0 k1]] (Is (.p (.int .i64 r_.1)) [.dead, .dead, .dead, .box [.zs, .zs], .box [.zs, .zs], .dead, .vec 5 (r_.2.1.map blkP), .vec 4 (wV.map vtP), .map (entsOf idP (fun v => .p (.int .i64 v)) r_.2.2.1), .map (entsOf vtP (fun v => .p (.bool v)) hm), .box [.vec 5 6 (r_.2.1.map blkP).length 0 (r_.2.1.map blkP).length, .vec 4 7 (wV.map vtP).length 0 (wV.map vtP).length, .map 8, .map 9, .p (.int .i64 upto), .p (.bool r_.2.2.2)], .dead, .dead, .dead, .vec 5 (lB.map blkP), .vec 4 (lV.map vtP), .box [.vec 5 14 n0 0 k0, .vec 4 15 n1 0 k1]]) := by
  refine LC.start Tryz.func184 rfl rfl rfl ?_
  unfold F160 at hr
  refine LW.seq (LW.region (LOps.st rfl rfl rfl (LOp.assign rfl rfl) (LOps.nil (thn_n (LW.seq (LW.seq (LW.region (LOps.st rfl rfl rfl (LOp.move rfl rfl) (LOps.st rfl rfl rfl (LOp.lenVP rfl rfl rfl (by kernel_rfl)) (LOps.st rfl rfl rfl (LOp.move rfl rfl) (LOps.nil ?_)))))))))))
  refine thn_n ?_
  obtain ⟨b_v1, hb_v1, ho_v1⟩ := bind_get hr
  clear hr
  refine LW.tailB (b := b_v1) (E := fun v1 => [(4, .p (.int .i64 0))]) (O := fun v1 => [.dead, .dead, .dead, .box [.zs, .zs], .box [.zs, .zs], .dead, .vec 5 (v1.o6.map blkP), .vec 4 (wV.map vtP), .map (entsOf idP (fun v => .p (.int .i64 v)) v1.o8), .map (entsOf vtP (fun v => .p (.bool v)) hm), .box [.vec 5 6 (v1.o6.map blkP).length 0 (v1.o6.map blkP).length, .vec 4 7 (wV.map vtP).length 0 (wV.map vtP).length, .map 8, .map 9, .p (.int .i64 upto), .p (.bool v1.o10_5)], .dead, .dead, .dead, .vec 5 (lB.map blkP), .vec 4 (lV.map vtP), .box [.vec 5 14 n0 0 k0, .vec 4 15 n1 0 k1]]) ?_ (fun v1 e_v1 env_v1 H_v1 hw_v1 => ?_)
  · refine LW.block ?_
    refine LW.iterB (E := fun x1 : F160_L1 => [(0, .vec 5 14 (lB.map blkP).length 0 kk), (1, .fn 153 [.ptr 10 0] []), (4, .p (.int .i64 0)), (7, .p (.int .i64 (kk : Int))), (8, .p (.int .i64 x1.t8))]) (O := fun x1 => [.dead, .dead, .dead, .box [.zs, .zs], .box [.zs, .zs], .dead, .vec 5 (x1.o6.map blkP), .vec 4 (wV.map vtP), .map (entsOf idP (fun v => .p (.int .i64 v)) x1.o8), .map (entsOf vtP (fun v => .p (.bool v)) hm), .box [.vec 5 6 (x1.o6.map blkP).length 0 (x1.o6.map blkP).length, .vec 4 7 (wV.map vtP).length 0 (wV.map vtP).length, .map 8, .map 9, .p (.int .i64 upto), .p (.bool x1.o10_5)], .dead, .dead, .dead, .vec 5 (lB.map blkP), .vec 4 (lV.map vtP), .box [.vec 5 14 n0 0 k0, .vec 4 15 n1 0 k1]]) hb_v1 (Weak.of 17 ⟨rfl, rfl, rfl, rfl, rfl, trivial⟩ rfl rfl rfl (lowObjs_cons rfl (lowObjs_cons rfl (lowObjs_cons rfl (lowObjs_cons rfl (lowObjs_cons rfl (lowObjs_cons rfl (lowObjs_cons rfl (lowObjs_cons rfl (lowObjs_cons (entsLow (fun _ => rfl) _) (lowObjs_cons (entsLow (fun _ => rfl) _) (lowObjs_cons rfl (lowObjs_cons rfl (lowObjs_cons rfl (lowObjs_cons rfl (lowObjs_cons rfl (lowObjs_cons rfl (lowObjs_cons rfl rfl)))))))))))))))))) (fun x1 z_x1 hr hb_x1 => ?_)
    unfold F160_s1 at hr
    refine LW.seq (LW.region (LOps.st rfl rfl rfl (LOp.bin rfl rfl rfl rfl) (LOps.nil (thn_n (LW.seq ?_)))))
    refine LW.cond rfl (fun (g1 : (decide (x1.t8 < (kk : Int))) = true) => ?_) (fun (g1 : (decide (x1.t8 < (kk : Int))) = false) => ?_)
    ·
      have hr := ite_t g1 hr
      refine LW.skip (thn_n (LW.seq (LW.block (LW.seq (LW.region (LOps.st rfl rfl rfl (LOp.move rfl rfl) (LOps.st rfl rfl rfl (LOp.assign rfl rfl) (LOps.nil (thn_n (LW.seq (LW.region ?_)))))))))))
      refine LOps.st rfl rfl rfl (LOp.move rfl rfl) (LOps.st rfl rfl rfl (LOp.move rfl rfl) (LOps.st rfl rfl rfl (LOp.move rfl rfl) ?_))
      obtain ⟨y1, h_y1, hr⟩ := bind_get hr
      refine LOps.st rfl rfl rfl (LOp.indexAddrVP rfl rfl rfl rfl st27 h_y1) (LOps.st rfl rfl rfl (LOp.loadVX rfl rfl rfl vt42 (ix_take h_y1).1 rfl rfl rfl rfl) ?_)
      obtain ⟨v2, h_v2, hr⟩ := bind_get hr
      refine LOps.st rfl rfl rfl (LOp.call rfl rfl rfl (by kernel_rfl) (cF135 h_v2)) (LOps.nil (thn_n ?_))
      refine LW.cond rfl (fun (g2 : v2.1 = true) => ?_) (fun (g2 : v2.1 = false) => ?_)
      ·
        have hr := ite_t g2 hr
        refine LW.seq (LW.region (LOps.st rfl rfl rfl (LOp.move rfl rfl) (LOps.st rfl rfl rfl (LOp.assign rfl rfl) (LOps.nil (thn_n (LW.ret (inBlk_r (thn_r (thn_r (inBlk_r (thn_r ?_)))))))))))
        refine thn_r ?_
        obtain rfl := Option.some.inj hr
        have hr := congrArg some (hb_x1 _ rfl)
        obtain rfl := Option.some.inj hr
        have hr := sum_r ho_v1
        obtain rfl := Option.some.inj hr
        refine fin_ret (.one (.tmp rfl)) ?_
        exact ⟨rfl, rfl⟩
      ·
        have hr := ite_f g2 hr
        refine LW.skip (inBlk_n (thn_n (LW.region (LOps.st rfl rfl rfl (LOp.bin rfl rfl rfl rfl) (LOps.st rfl rfl rfl (LOp.move rfl rfl) (LOps.nil (thn_n ?_)))))))
        obtain rfl := Option.some.inj hr
        exact ⟨_, rfl, Weak.of 17 ⟨rfl, rfl, rfl, rfl, rfl, trivial⟩ rfl rfl rfl (lowObjs_cons rfl (lowObjs_cons rfl (lowObjs_cons rfl (lowObjs_cons rfl (lowObjs_cons rfl (lowObjs_cons rfl (lowObjs_cons rfl (lowObjs_cons rfl (lowObjs_cons (entsLow (fun _ => rfl) _) (lowObjs_cons (entsLow (fun _ => rfl) _) (lowObjs_cons rfl (lowObjs_cons rfl (lowObjs_cons rfl (lowObjs_cons rfl (lowObjs_cons rfl (lowObjs_cons rfl (lowObjs_cons rfl rfl)))))))))))))))))⟩
    ·
      have hr := ite_f g1 hr
      refine LW.exit (thn_e (thn_e (inBlk_self (thn_n ?_))))
      obtain rfl := Option.some.inj hr
      have hr := congrArg some (hb_x1 _ rfl)
      obtain rfl := Option.some.inj hr
      exact ⟨_, rfl, Weak.of 17 ⟨rfl, trivial⟩ rfl rfl rfl (lowObjs_cons rfl (lowObjs_cons rfl (lowObjs_cons rfl (lowObjs_cons rfl (lowObjs_cons rfl (lowObjs_cons rfl (lowObjs_cons rfl (lowObjs_cons rfl (lowObjs_cons (entsLow (fun _ => rfl) _) (lowObjs_cons (entsLow (fun _ => rfl) _) (lowObjs_cons rfl (lowObjs_cons rfl (lowObjs_cons rfl (lowObjs_cons rfl (lowObjs_cons rfl (lowObjs_cons rfl (lowObjs_cons rfl rfl)))))))))))))))))⟩
  · obtain rfl := e_v1
    have hr := sum_l ho_v1
    clear hb_v1
    refine thn_n (LW.weak hw_v1 (LW.seq (LW.region (LOps.st rfl rfl rfl (LOp.assign rfl rfl) (LOps.nil (thn_n (LW.ret ?_)))))))
    obtain rfl := Option.some.inj hr
    refine fin_ret (.one (.tmp rfl)) ?_
    exact ⟨rfl, rfl⟩
structure F137_L1 where
  i : Int
  j : Int
  o6 : List Bk
  o8 : List (ID × Int)
  o10_5 : Bool
  o14 : List Bk
def F137_s1 (kk : Nat) (upto : Int) (x1 : F137_L1) : Option (F137_L1 ⊕ F137_L1) :=
  bif decide (x1.j < (kk : Int)) then
    (ix (x1.o14.take kk) x1.j).bind fun y1 =>
    (F135 y1 x1.o6 x1.o8 upto x1.o10_5).bind fun v3 =>
    bif !v3.1 then
      (ix (x1.o14.take kk) x1.i).bind fun _ =>
      some (.inl (F137_L1.mk (IntKind.i64.wrap (x1.i + 1)) (IntKind.i64.wrap (x1.j + 1)) v3.2.1 v3.2.2.1 v3.2.2.2 (x1.o14.set x1.i.toNat y1)))
    else
      some (.inl (F137_L1.mk x1.i (IntKind.i64.wrap (x1.j + 1)) v3.2.1 v3.2.2.1 v3.2.2.2 x1.o14))
  else
    some (.inr (F137_L1.mk x1.i x1.j x1.o6 x1.o8 x1.o10_5 x1.o14))
def F137 (lB : List Bk) (kk : Nat) (wB : List Bk) (sm : List (ID × Int)) (upto : Int) (full : Bool) : Option (Nat × List Bk × List Bk × List (ID × Int) × Bool) :=
  (F160 lB kk wB sm upto full).bind fun v1 =>
  bif v1.1 == (-1) then
    some (kk, lB, v1.2.1, v1.2.2.1, v1.2.2.2)
  else
    (iter (F137_s1 kk upto) big (F137_L1.mk v1.1 (IntKind.i64.wrap (v1.1 + 1)) v1.2.1 v1.2.2.1 v1.2.2.2 lB)).bind fun v2 =>
    bif decide (0 ≤ v2.i ∧ v2.i ≤ (kk : Int)) then
      bif decide (v2.i.toNat + (kk - v2.i.toNat) ≤ v2.o14.length) then
        bif decide (0 ≤ v2.i ∧ v2.i ≤ (kk : Int)) then
          some (v2.i.toNat, clrL v2.o14 v2.i.toNat (kk - v2.i.toNat) (Bk.mk 0 0 (0, 0) 0), v2.o6, v2.o8, v2.o10_5)
        else none
      else none
    else none
set_option maxRecDepth 100000 in
theorem cF137 {lB : List Bk} {kk : Nat} {wB : List Bk} {wV : List Vt} {sm : List (ID × Int)} {hm : List (Vt × Bool)} {upto : Int} {full : Bool} {lV : List Vt} {n0 : Nat} {k0 : Nat} {n1 : Nat} {k1 : Nat} {r_ : Nat × List Bk × List Bk × List (ID × Int) × Bool} (hr : F137 lB kk wB sm upto full = some r_) : LC Tryz.prog 155 [.vec 5 14 (lB.map blkP).length 0 kk, .fn 153 [.ptr 10 0] []] [.dead, .dead, .dead, .box [.zs, .zs], .box [.zs, .zs], .dead, .vec 5 (wB.map blkP), .vec 4 (wV.map vtP), .map (entsOf idP (fun v => .p (.int .i64 v)) sm), .map (entsOf vtP (fun v => .p (.bool v)) hm), .box [.vec 5 6 (wB.map blkP).length 0 (wB.map blkP).length, .vec 4 7 (wV.map vtP).length 0 (wV.map vtP).length, .map 8, .map 9, .p (.int .i64 upto), .p (.bool full)], .dead, .dead, .dead, .vec 5 (lB.map blkP), .vec 4 (lV.map vtP), .box [.vec 5 14 n0 0 k0, .vec 4 15 n1 0 k1]] (Is (.vec 5 14 (r_.2.1.map blkP).length 0 r_.1) [.dead, .dead, .dead, .box [.zs, .zs], .box [.zs, .zs], .dead, .vec 5 (r_.2.2.1.map blkP), .vec 4 (wV.map vtP), .map (entsOf idP (fun v => .p (.int .i64 v)) r_.2.2.2.1), .map (entsOf vtP (fun v => .p (.bool v)) hm), .box [.vec 5 6 (r_.2.2.1.map blkP).length 0 (r_.2.2.1.map blkP).length, .vec 4 7 (wV.map vtP).length 0 (wV.map vtP).length, .map 8, .map 9, .p (.int .i64 upto), .p (.bool r_.2.2.2.2)], .dead, .dead, .dead, .vec 5 (r_.2.1.map blkP), .vec 4 (lV.map vtP), .box [.vec 5 14 n0 0 k0, .vec 4 15 n1 0 k1]]) := by
  refine LC.start Tryz.func155 rfl rfl rfl ?_
  unfold F137 at hr
  refine LW.seq (LW.region (LOps.st rfl rfl rfl (LOp.assign rfl rfl) (LOps.nil (thn_n (LW.seq (LW.region (LOps.st rfl rfl rfl (LOp.move rfl rfl) (LOps.st rfl rfl rfl (LOp.move rfl rfl) ?_))))))))
  obtain ⟨v1, h_v1, hr⟩ := bind_get hr
  refine LOps.st rfl rfl rfl (LOp.call rfl rfl rfl (by kernel_rfl) (cF160 h_v1)) (LOps.st rfl rfl rfl (LOp.assign rfl rfl) (LOps.nil (thn_n (LW.seq (LW.seq (LW.region (LOps.st rfl rfl rfl (LOp.move rfl rfl) (LOps.st rfl rfl rfl (LOp.bin rfl rfl rfl rfl) (LOps.nil (thn_n ?_))))))))))
  refine LW.cond rfl (fun (g1 : (v1.1 == (-1)) = true) => ?_) (fun (g1 : (v1.1 == (-1)) = false) => ?_)
  ·
    have hr := ite_t g1 hr
    refine LW.seq (LW.region (LOps.st rfl rfl rfl (LOp.move rfl rfl) (LOps.st rfl rfl rfl (LOp.assign rfl rfl) (LOps.nil (thn_n (LW.ret (thn_r ?_)))))))
    obtain rfl := Option.some.inj hr
    refine fin_ret (.one (.tmp rfl)) ?_
    exact ⟨rfl, rfl⟩
  ·
    have hr := ite_f g1 hr
    refine LW.skip (thn_n (LW.seq (LW.seq (LW.region (LOps.st rfl rfl rfl (LOp.move rfl rfl) (LOps.st rfl rfl rfl (LOp.bin rfl rfl rfl rfl) (LOps.st rfl rfl rfl (LOp.assign rfl rfl) (LOps.nil (thn_n ?_)))))))))
    obtain ⟨v2, hb_v2, ho_v2⟩ := bind_get hr
    clear hr
    refine LW.tail (E := [(0, .vec 5 14 (v2.o14.map blkP).length 0 kk), (4, .zs), (5, .p (.int .i64 v2.i))]) (O := [.dead, .dead, .dead, .box [.zs, .zs], .box [.zs, .zs], .dead, .vec 5 (v2.o6.map blkP), .vec 4 (wV.map vtP), .map (entsOf idP (fun v => .p (.int .i64 v)) v2.o8), .map (entsOf vtP (fun v => .p (.bool v)) hm), .box [.vec 5 6 (v2.o6.map blkP).length 0 (v2.o6.map blkP).length, .vec 4 7 (wV.map vtP).length 0 (wV.map vtP).length, .map 8, .map 9, .p (.int .i64 upto), .p (.bool v2.o10_5)], .dead, .dead, .dead, .vec 5 (v2.o14.map blkP), .vec 4 (lV.map vtP), .box [.vec 5 14 n0 0 k0, .vec 4 15 n1 0 k1]]) ?_ (fun env_v2 H_v2 hw_v2 => ?_)
    · refine LW.block ?_
      refine LW.iterB (E := fun x1 : F137_L1 => [(0, .vec 5 14 (x1.o14.map blkP).length 0 kk), (1, .fn 153 [.ptr 10 0] []), (4, .zs), (5, .p (.int .i64 x1.i)), (6, .p (.int .i64 x1.j))]) (O := fun x1 => [.dead, .dead, .dead, .box [.zs, .zs], .box [.zs, .zs], .dead, .vec 5 (x1.o6.map blkP), .vec 4 (wV.map vtP), .map (entsOf idP (fun v => .p (.int .i64 v)) x1.o8), .map (entsOf vtP (fun v => .p (.bool v)) hm), .box [.vec 5 6 (x1.o6.map blkP).length 0 (x1.o6.map blkP).length, .vec 4 7 (wV.map vtP).length 0 (wV.map vtP).length, .map 8, .map 9, .p (.int .i64 upto), .p (.bool x1.o10_5)], .dead, .dead, .dead, .vec 5 (x1.o14.map blkP), .vec 4 (lV.map vtP), .box [.vec 5 14 n0 0 k0, .vec 4 15 n1 0 k1]]) hb_v2 (Weak.of 17 ⟨rfl, rfl, rfl, rfl, rfl, trivial⟩ rfl rfl rfl (lowObjs_cons rfl (lowObjs_cons rfl (lowObjs_cons rfl (lowObjs_cons rfl (lowObjs_cons rfl (lowObjs_cons rfl (lowObjs_cons rfl (lowObjs_cons rfl (lowObjs_cons (entsLow (fun _ => rfl) _) (lowObjs_cons (entsLow (fun _ => rfl) _) (lowObjs_cons rfl (lowObjs_cons rfl (lowObjs_cons rfl (lowObjs_cons rfl (lowObjs_cons rfl (lowObjs_cons rfl (lowObjs_cons rfl rfl)))))))))))))))))) (fun x1 z_x1 hr hb_x1 => ?_)
      unfold F137_s1 at hr
      refine LW.seq (LW.seq (LW.region (LOps.st rfl rfl rfl (LOp.move rfl rfl) (LOps.st rfl rfl rfl (LOp.move rfl rfl) (LOps.st rfl rfl rfl (LOp.lenVP rfl rfl rfl (by kernel_rfl)) (LOps.st rfl rfl rfl (LOp.bin rfl rfl rfl rfl) (LOps.nil (thn_n ?_))))))))
      refine LW.cond rfl (fun (g2 : (decide (x1.j < (kk : Int))) = true) => ?_) (fun (g2 : (decide (x1.j < (kk : Int))) = false) => ?_)
      ·
        have hr := ite_t g2 hr
        refine LW.skip (thn_n (LW.seq (LW.block (LW.seq (LW.region (LOps.st rfl rfl rfl (LOp.move rfl rfl) (LOps.st rfl rfl rfl (LOp.move rfl rfl) ?_)))))))
        obtain ⟨y1, h_y1, hr⟩ := bind_get hr
        refine LOps.st rfl rfl rfl (LOp.indexAddrVP rfl rfl rfl rfl st27 h_y1) (LOps.st rfl rfl rfl (LOp.loadVX rfl rfl rfl vt42 (ix_take h_y1).1 rfl rfl rfl rfl) (LOps.st rfl rfl rfl (LOp.alloc rfl zt42 rfl rfl) (LOps.st rfl rfl rfl (LOp.store rfl rfl rfl rfl vt42 rfl rfl rfl rfl) (LOps.nil (thn_n (LW.seq (LW.region (LOps.st rfl rfl rfl (LOp.move rfl rfl) (LOps.st rfl rfl rfl (LOp.load rfl rfl rfl vt42 rfl rfl) ?_)))))))))
        obtain ⟨v3, h_v3, hr⟩ := bind_get hr
        refine LOps.st rfl rfl rfl (LOp.call rfl rfl rfl (by kernel_rfl) (LC.pre (cF135 h_v3) rfl (lowObjs_cons rfl (lowObjs_cons rfl (lowObjs_cons rfl (lowObjs_cons rfl (lowObjs_cons rfl (lowObjs_cons rfl (lowObjs_cons rfl (lowObjs_cons rfl (lowObjs_cons (entsLow (fun _ => rfl) _) (lowObjs_cons (entsLow (fun _ => rfl) _) (lowObjs_cons rfl (lowObjs_cons rfl (lowObjs_cons rfl (lowObjs_cons rfl (lowObjs_cons rfl (lowObjs_cons rfl (lowObjs_cons rfl rfl))))))))))))))))) rfl)) ?_
        refine LOps.st rfl rfl rfl (LOp.not rfl rfl) (LOps.nil (thn_n ?_))
        refine LW.cond rfl (fun (g3 : (!v3.1) = true) => ?_) (fun (g3 : (!v3.1) = false) => ?_)
        ·
          have hr := ite_t g3 hr
          refine LW.seq (LW.region (LOps.st rfl rfl rfl (LOp.move rfl rfl) (LOps.st rfl rfl rfl (LOp.move rfl rfl) (LOps.st rfl rfl rfl (LOp.load rfl rfl rfl vt42 rfl rfl) ?_))))
          obtain ⟨y2, h_y2, hr⟩ := bind_get hr
          refine LOps.st rfl rfl rfl (LOp.indexAddrVP rfl rfl rfl rfl st27 h_y2) ?_
          refine LOps.st rfl rfl rfl (LOp.storeVP (f := blkP) (l := x1.o14) y1 rfl rfl rfl rfl vt42 (fun _ => rfl) (ix_take h_y2).1 rfl rfl rfl rfl rfl rfl rfl) ?_
          refine LOps.nil (thn_n (LW.region (LOps.st rfl rfl rfl (LOp.move rfl rfl) (LOps.st rfl rfl rfl (LOp.bin rfl rfl rfl rfl) (LOps.st rfl rfl rfl (LOp.assign rfl rfl) (LOps.nil (inBlk_n (thn_n (LW.region (LOps.st rfl rfl rfl (LOp.move rfl rfl) (LOps.st rfl rfl rfl (LOp.bin rfl rfl rfl rfl) ?_)))))))))))
          refine LOps.st rfl rfl rfl (LOp.assign rfl rfl) (LOps.nil (thn_n ?_))
          obtain rfl := Option.some.inj hr
          exact ⟨_, rfl, Weak.of 17 ⟨(pset (rfl)), rfl, rfl, rfl, rfl, trivial⟩ rfl rfl rfl (lowObjs_cons rfl (lowObjs_cons rfl (lowObjs_cons rfl (lowObjs_cons rfl (lowObjs_cons rfl (lowObjs_cons rfl (lowObjs_cons rfl (lowObjs_cons rfl (lowObjs_cons (entsLow (fun _ => rfl) _) (lowObjs_cons (entsLow (fun _ => rfl) _) (lowObjs_cons rfl (lowObjs_cons rfl (lowObjs_cons rfl (lowObjs_cons rfl (lowObjs_cons rfl (lowObjs_cons rfl (lowObjs_cons rfl rfl)))))))))))))))))⟩
        ·
          have hr := ite_f g3 hr
          refine LW.skip (inBlk_n (thn_n (LW.region (LOps.st rfl rfl rfl (LOp.move rfl rfl) (LOps.st rfl rfl rfl (LOp.bin rfl rfl rfl rfl) (LOps.st rfl rfl rfl (LOp.assign rfl rfl) (LOps.nil (thn_n ?_))))))))
          obtain rfl := Option.some.inj hr
          exact ⟨_, rfl, Weak.of 17 ⟨rfl, rfl, rfl, rfl, rfl, trivial⟩ rfl rfl rfl (lowObjs_cons rfl (lowObjs_cons rfl (lowObjs_cons rfl (lowObjs_cons rfl (lowObjs_cons rfl (lowObjs_cons rfl (lowObjs_cons rfl (lowObjs_cons rfl (lowObjs_cons (entsLow (fun _ => rfl) _) (lowObjs_cons (entsLow (fun _ => rfl) _) (lowObjs_cons rfl (lowObjs_cons rfl (lowObjs_cons rfl (lowObjs_cons rfl (lowObjs_cons rfl (lowObjs_cons rfl (lowObjs_cons rfl rfl)))))))))))))))))⟩
      ·
        have hr := ite_f g2 hr
        refine LW.exit (thn_e (thn_e (inBlk_self (thn_n ?_))))
        obtain rfl := Option.some.inj hr
        have hr := congrArg some (hb_x1 _ rfl)
        obtain rfl := Option.some.inj hr
        exact Weak.of 17 ⟨rfl, rfl, rfl, trivial⟩ rfl rfl rfl (lowObjs_cons rfl (lowObjs_cons rfl (lowObjs_cons rfl (lowObjs_cons rfl (lowObjs_cons rfl (lowObjs_cons rfl (lowObjs_cons rfl (lowObjs_cons rfl (lowObjs_cons (entsLow (fun _ => rfl) _) (lowObjs_cons (entsLow (fun _ => rfl) _) (lowObjs_cons rfl (lowObjs_cons rfl (lowObjs_cons rfl (lowObjs_cons rfl (lowObjs_cons rfl (lowObjs_cons rfl (lowObjs_cons rfl rfl)))))))))))))))))
    · have hr := ho_v2
      clear hb_v2
      refine thn_n (LW.weak hw_v2 (LW.seq (LW.region (LOps.st rfl rfl rfl (LOp.move rfl rfl) (LOps.st rfl rfl rfl (LOp.move rfl rfl) ?_)))))
      obtain ⟨q1, hr⟩ := grd_get hr
      refine LOps.st rfl rfl rfl (LOp.sliceVLo rfl rfl rfl rfl st27 q1) ?_
      obtain ⟨q2, hr⟩ := grd_get hr
      refine LOps.st rfl rfl rfl (LOp.clearVP (f := blkP) (zs := [.int .i64 0, .int .i64 0, .int .u64 0, .int .u64 0, .int .u64 0]) (Bk.mk 0 0 (0, 0) 0) rfl rfl rfl st27 (fun _ => rfl) (by kernel_rfl) rfl q2 rfl) ?_
      refine LOps.nil (thn_n (LW.seq (LW.ent (Ent.vlen (t := 0) (n' := ((clrL v2.o14 v2.i.toNat (kk - v2.i.toNat) (Bk.mk 0 0 (0, 0) 0)).map blkP).length) rfl (clr_len q2)) (LW.region (LOps.st rfl rfl rfl (LOp.move rfl rfl) (LOps.st rfl rfl rfl (LOp.move rfl rfl) ?_))))))
      obtain ⟨q3, hr⟩ := grd_get hr
      refine LOps.st rfl rfl rfl (LOp.sliceVHi rfl rfl rfl rfl st27 q3) (LOps.st rfl rfl rfl (LOp.assign rfl rfl) (LOps.nil (thn_n (LW.ret ?_))))
      obtain rfl := Option.some.inj hr
      refine fin_ret (.one (.tmp rfl)) ?_
      exact ⟨rfl, rfl⟩
structure F158_L1 where
  t8 : Int
  o7 : List Vt
  o9 : List (Vt × Bool)
  o10_5 : Bool
def F158_s1 (lV : List Vt) (kk : Nat) (sm : List (ID × Int)) (upto : Int) (x1 : F158_L1) : Option (F158_L1 ⊕ (F158_L1 ⊕ (Int × List Vt × List (Vt × Bool) × Bool))) :=
  bif decide (x1.t8 < (kk : Int)) then
    (ix (lV.take kk) x1.t8).bind fun y1 =>
    (F136 y1 x1.o7 sm x1.o9 upto x1.o10_5).bind fun v2 =>
    bif v2.1 then
      some (.inr (.inr (x1.t8, v2.2.1, v2.2.2.1, v2.2.2.2)))
    else
      some (.inl (F158_L1.mk (IntKind.i64.wrap (x1.t8 + 1)) v2.2.1 v2.2.2.1 v2.2.2.2))
  else
    some (.inr (.inl (F158_L1.mk x1.t8 x1.o7 x1.o9 x1.o10_5)))
def F158 (lV : List Vt) (kk : Nat) (wV : List Vt) (sm : List (ID × Int)) (hm : List (Vt × Bool)) (upto : Int) (full : Bool) : Option (Int × List Vt × List (Vt × Bool) × Bool) :=
  (iter (F158_s1 lV kk sm upto) big (F158_L1.mk 0 wV hm full)).bind fun b_v1 => Sum.elim (fun v1 =>
    some ((-1), v1.o7, v1.o9, v1.o10_5)) some b_v1
set_option maxRecDepth 100000 in
theorem cF158 {lV : List Vt} {kk : Nat} {wB : List Bk} {wV : List Vt} {sm : List (ID × Int)} {hm : List (Vt × Bool)} {upto : Int} {full : Bool} {lB : List Bk} {n0 : Nat} {k0 : Nat} {n1 : Nat} {k1 : Nat} {r_ : Int × List Vt × List (Vt × Bool) × Bool} (hr : F158 lV kk wV sm hm upto full = some r_) : LC Tryz.prog 92 [.vec 4 15 (lV.map vtP).length 0 kk, .fn 154 [.ptr 10 0] []] [.dead, .dead, .dead, .box [.zs, .zs], .box [.zs, .zs], .dead, .vec 5 (wB.map blkP), .vec 4 (wV.map vtP), .map (entsOf idP (fun v => .p (.int .i64 v)) sm), .map (entsOf vtP (fun v => .p (.bool v)) hm), .box [.vec 5 6 (wB.map blkP).length 0 (wB.map blkP).length, .vec 4 7 (wV.map vtP).length 0 (wV.map vtP).length, .map 8, .map 9, .p (.int .i64 upto), .p (.bool full)], .dead, .dead, .dead, .vec 5 (lB.map blkP), .vec 4 (lV.map vtP), .box [.vec 5 14 n0 0 k0, .vec 4 15 n1 0 k1]] (Is (.p (.int .i64 r_.1)) [.dead, .dead, .dead, .box [.zs, .zs], .box [.zs, .zs], .dead, .vec 5 (wB.map blkP), .vec 4 (r_.2.1.map vtP), .map (entsOf idP (fun v => .p (.int .i64 v)) sm), .map (entsOf vtP (fun v => .p (.bool v)) r_.2.2.1), .box [.vec 5 6 (wB.map blkP).length 0 (wB.map blkP).length, .vec 4 7 (r_.2.1.map vtP).length 0 (r_.2.1.map vtP).length, .map 8, .map 9, .p (.int .i64 upto), .p (.bool r_.2.2.2)], .dead, .dead, .dead, .vec 5 (lB.map blkP), .vec 4 (lV.map vtP), .box [.vec 5 14 n0 0 k0, .vec 4 15 n1 0 k1]]) := by
  refine LC.start Tryz.func92 rfl rfl rfl ?_
  unfold F158 at hr
  refine LW.seq (LW.region (LOps.st rfl rfl rfl (LOp.assign rfl rfl) (LOps.nil (thn_n (LW.seq (LW.seq (LW.region (LOps.st rfl rfl rfl (LOp.move rfl rfl) (LOps.st rfl rfl rfl (LOp.lenVP rfl rfl rfl (by kernel_rfl)) (LOps.st rfl rfl rfl (LOp.move rfl rfl) (LOps.nil ?_)))))))))))
  refine thn_n ?_
  obtain ⟨b_v1, hb_v1, ho_v1⟩ := bind_get hr
  clear hr
  refine LW.tailB (b := b_v1) (E := fun v1 => [(4, .p (.int .i64 0))]) (O := fun v1 => [.dead, .dead, .dead, .box [.zs, .zs], .box [.zs, .zs], .dead, .vec 5 (wB.map blkP), .vec 4 (v1.o7.map vtP), .map (entsOf idP (fun v => .p (.int .i64 v)) sm), .map (entsOf vtP (fun v => .p (.bool v)) v1.o9), .box [.vec 5 6 (wB.map blkP).length 0 (wB.map blkP).length, .vec 4 7 (v1.o7.map vtP).length 0 (v1.o7.map vtP).length, .map 8, .map 9, .p (.int .i64 upto), .p (.bool v1.o10_5)], .dead, .dead, .dead, .vec 5 (lB.map blkP), .vec 4 (lV.map vtP), .box [.vec 5 14 n0 0 k0, .vec 4 15 n1 0 k1]]) ?_ (fun v1 e_v1 env_v1 H_v1 hw_v1 => ?_)
  · refine LW.block ?_
    refine LW.iterB (E := fun x1 : F158_L1 => [(0, .vec 4 15 (lV.map vtP).length 0 kk), (1, .fn 154 [.ptr 10 0] []), (4, .p (.int .i64 0)), (7, .p (.int .i64 (kk : Int))), (8, .p (.int .i64 x1.t8))]) (O := fun x1 => [.dead, .dead, .dead, .box [.zs, .zs], .box [.zs, .zs], .dead, .vec 5 (wB.map blkP), .vec 4 (x1.o7.map vtP), .map (entsOf idP (fun v => .p (.int .i64 v)) sm), .map (entsOf vtP (fun v => .p (.bool v)) x1.o9), .box [.vec 5 6 (wB.map blkP).length 0 (wB.map blkP).length, .vec 4 7 (x1.o7.map vtP).length 0 (x1.o7.map vtP).length, .map 8, .map 9, .p (.int .i64 upto), .p (.bool x1.o10_5)], .dead, .dead, .dead, .vec 5 (lB.map blkP), .vec 4 (lV.map vtP), .box [.vec 5 14 n0 0 k0, .vec 4 15 n1 0 k1]]) hb_v1 (Weak.of 17 ⟨rfl, rfl, rfl, rfl, rfl, trivial⟩ rfl rfl rfl (lowObjs_cons rfl (lowObjs_cons rfl (lowObjs_cons rfl (lowObjs_cons rfl (lowObjs_cons rfl (lowObjs_cons rfl (lowObjs_cons rfl (lowObjs_cons rfl (lowObjs_cons (entsLow (fun _ => rfl) _) (lowObjs_cons (entsLow (fun _ => rfl) _) (lowObjs_cons rfl (lowObjs_cons rfl (lowObjs_cons rfl (lowObjs_cons rfl (lowObjs_cons rfl (lowObjs_cons rfl (lowObjs_cons rfl rfl)))))))))))))))))) (fun x1 z_x1 hr hb_x1 => ?_)
    unfold F158_s1 at hr
    refine LW.seq (LW.region (LOps.st rfl rfl rfl (LOp.bin rfl rfl rfl rfl) (LOps.nil (thn_n (LW.seq ?_)))))
    refine LW.cond rfl (fun (g1 : (decide (x1.t8 < (kk : Int))) = true) => ?_) (fun (g1 : (decide (x1.t8 < (kk : Int))) = false) => ?_)
    ·
      have hr := ite_t g1 hr
      refine LW.skip (thn_n (LW.seq (LW.block (LW.seq (LW.region (LOps.st rfl rfl rfl (LOp.move rfl rfl) (LOps.st rfl rfl rfl (LOp.assign rfl rfl) (LOps.nil (thn_n (LW.seq (LW.region ?_)))))))))))
      refine LOps.st rfl rfl rfl (LOp.move rfl rfl) (LOps.st rfl rfl rfl (LOp.move rfl rfl) (LOps.st rfl rfl rfl (LOp.move rfl rfl) ?_))
      obtain ⟨y1, h_y1, hr⟩ := bind_get hr
      refine LOps.st rfl rfl rfl (LOp.indexAddrVP rfl rfl rfl rfl st68 h_y1) (LOps.st rfl rfl rfl (LOp.loadVX rfl rfl rfl vt82 (ix_take h_y1).1 rfl rfl rfl rfl) ?_)
      obtain ⟨v2, h_v2, hr⟩ := bind_get hr
      refine LOps.st rfl rfl rfl (LOp.call rfl rfl rfl (by kernel_rfl) (cF136 h_v2)) (LOps.nil (thn_n ?_))
      refine LW.cond rfl (fun (g2 : v2.1 = true) => ?_) (fun (g2 : v2.1 = false) => ?_)
      ·
        have hr := ite_t g2 hr
        refine LW.seq (LW.region (LOps.st rfl rfl rfl (LOp.move rfl rfl) (LOps.st rfl rfl rfl (LOp.assign rfl rfl) (LOps.nil (thn_n (LW.ret (inBlk_r (thn_r (thn_r (inBlk_r (thn_r ?_)))))))))))
        refine thn_r ?_
        obtain rfl := Option.some.inj hr
        have hr := congrArg some (hb_x1 _ rfl)
        obtain rfl := Option.some.inj hr
        have hr := sum_r ho_v1
        obtain rfl := Option.some.inj hr
        refine fin_ret (.one (.tmp rfl)) ?_
        exact ⟨rfl, rfl⟩
      ·
        have hr := ite_f g2 hr
        refine LW.skip (inBlk_n (thn_n (LW.region (LOps.st rfl rfl rfl (LOp.bin rfl rfl rfl rfl) (LOps.st rfl rfl rfl (LOp.move rfl rfl) (LOps.nil (thn_n ?_)))))))
        obtain rfl := Option.some.inj hr
        exact ⟨_, rfl, Weak.of 17 ⟨rfl, rfl, rfl, rfl, rfl, trivial⟩ rfl rfl rfl (lowObjs_cons rfl (lowObjs_cons rfl (lowObjs_cons rfl (lowObjs_cons rfl (lowObjs_cons rfl (lowObjs_cons rfl (lowObjs_cons rfl (lowObjs_cons rfl (lowObjs_cons (entsLow (fun _ => rfl) _) (lowObjs_cons (entsLow (fun _ => rfl) _) (lowObjs_cons rfl (lowObjs_cons rfl (lowObjs_cons rfl (lowObjs_cons rfl (lowObjs_cons rfl (lowObjs_cons rfl (lowObjs_cons rfl rfl)))))))))))))))))⟩
    ·
      have hr := ite_f g1 hr
      refine LW.exit (thn_e (thn_e (inBlk_self (thn_n ?_))))
      obtain rfl := Option.some.inj hr
      have hr := congrArg some (hb_x1 _ rfl)
      obtain rfl := Option.some.inj hr
      exact ⟨_, rfl, Weak.of 17 ⟨rfl, trivial⟩ rfl rfl rfl (lowObjs_cons rfl (lowObjs_cons rfl (lowObjs_cons rfl (lowObjs_cons rfl (lowObjs_cons rfl (lowObjs_cons rfl (lowObjs_cons rfl (lowObjs_cons rfl (lowObjs_cons (entsLow (fun _ => rfl) _) (lowObjs_cons (entsLow (fun _ => rfl) _) (lowObjs_cons rfl (lowObjs_cons rfl (lowObjs_cons rfl (lowObjs_cons rfl (lowObjs_cons rfl (lowObjs_cons rfl (lowObjs_cons rfl rfl)))))))))))))))))⟩
  · obtain rfl := e_v1
    have hr := sum_l ho_v1
    clear hb_v1
    refine thn_n (LW.weak hw_v1 (LW.seq (LW.region (LOps.st rfl rfl rfl (LOp.assign rfl rfl) (LOps.nil (thn_n (LW.ret ?_)))))))
    obtain rfl := Option.some.inj hr
    refine fin_ret (.one (.tmp rfl)) ?_
    exact ⟨rfl, rfl⟩
structure F138_L1 where
  i : Int
  j : Int
  o7 : List Vt
  o9 : List (Vt × Bool)
  o10_5 : Bool
  o15 : List Vt
def F138_s1 (kk : Nat) (sm : List (ID × Int)) (upto : Int) (x1 : F138_L1) : Option (F138_L1 ⊕ F138_L1) :=
  bif decide (x1.j < (kk : Int)) then
    (ix (x1.o15.take kk) x1.j).bind fun y1 =>
    (F136 y1 x1.o7 sm x1.o9 upto x1.o10_5).bind fun v3 =>
    bif !v3.1 then
      (ix (x1.o15.take kk) x1.i).bind fun _ =>
      some (.inl (F138_L1.mk (IntKind.i64.wrap (x1.i + 1)) (IntKind.i64.wrap (x1.j + 1)) v3.2.1 v3.2.2.1 v3.2.2.2 (x1.o15.set x1.i.toNat y1)))
    else
      some (.inl (F138_L1.mk x1.i (IntKind.i64.wrap (x1.j + 1)) v3.2.1 v3.2.2.1 v3.2.2.2 x1.o15))
  else
    some (.inr (F138_L1.mk x1.i x1.j x1.o7 x1.o9 x1.o10_5 x1.o15))
def F138 (lV : List Vt) (kk : Nat) (wV : List Vt) (sm : List (ID × Int)) (hm : List (Vt × Bool)) (upto : Int) (full : Bool) : Option (Nat × List Vt × List Vt × List (Vt × Bool) × Bool) :=
  (F158 lV kk wV sm hm upto full).bind fun v1 =>
  bif v1.1 == (-1) then
    some (kk, lV, v1.2.1, v1.2.2.1, v1.2.2.2)
  else
    (iter (F138_s1 kk sm upto) big (F138_L1.mk v1.1 (IntKind.i64.wrap (v1.1 + 1)) v1.2.1 v1.2.2.1 v1.2.2.2 lV)).bind fun v2 =>
    bif decide (0 ≤ v2.i ∧ v2.i ≤ (kk : Int)) then
      bif decide (v2.i.toNat + (kk - v2.i.toNat) ≤ v2.o15.length) then
        bif decide (0 ≤ v2.i ∧ v2.i ≤ (kk : Int)) then
          some (v2.i.toNat, clrL v2.o15 v2.i.toNat (kk - v2.i.toNat) (Vt.mk 0 0 (0, 0)), v2.o7, v2.o9, v2.o10_5)
        else none
      else none
    else none
set_option maxRecDepth 100000 in
theorem cF138 {lV : List Vt} {kk : Nat} {wB : List Bk} {wV : List Vt} {sm : List (ID × Int)} {hm : List (Vt × Bool)} {upto : Int} {full : Bool} {lB : List Bk} {n0 : Nat} {k0 : Nat} {n1 : Nat} {k1 : Nat} {r_ : Nat × List Vt × List Vt × List (Vt × Bool) × Bool} (hr : F138 lV kk wV sm hm upto full = some r_) : LC Tryz.prog 137 [.vec 4 15 (lV.map vtP).length 0 kk, .fn 154 [.ptr 10 0] []] [.dead, .dead, .dead, .box [.zs, .zs], .box [.zs, .zs], .dead, .vec 5 (wB.map blkP), .vec 4 (wV.map vtP), .map (entsOf idP (fun v => .p (.int .i64 v)) sm), .map (entsOf vtP (fun v => .p (.bool v)) hm), .box [.vec 5 6 (wB.map blkP).length 0 (wB.map blkP).length, .vec 4 7 (wV.map vtP).length 0 (wV.map vtP).length, .map 8, .map 9, .p (.int .i64 upto), .p (.bool full)], .dead, .dead, .dead, .vec 5 (lB.map blkP), .vec 4 (lV.map vtP), .box [.vec 5 14 n0 0 k0, .vec 4 15 n1 0 k1]] (Is (.vec 4 15 (r_.2.1.map vtP).length 0 r_.1) [.dead, .dead, .dead, .box [.zs, .zs], .box [.zs, .zs], .dead, .vec 5 (wB.map blkP), .vec 4 (r_.2.2.1.map vtP), .map (entsOf idP (fun v => .p (.int .i64 v)) sm), .map (entsOf vtP (fun v => .p (.bool v)) r_.2.2.2.1), .box [.vec 5 6 (wB.map blkP).length 0 (wB.map blkP).length, .vec 4 7 (r_.2.2.1.map vtP).length 0 (r_.2.2.1.map vtP).length, .map 8, .map 9, .p (.int .i64 upto), .p (.bool r_.2.2.2.2)], .dead, .dead, .dead, .vec 5 (lB.map blkP), .vec 4 (r_.2.1.map vtP), .box [.vec 5 14 n0 0 k0, .vec 4 15 n1 0 k1]]) := by
  refine LC.start Tryz.func137 rfl rfl rfl ?_
  unfold F138 at hr
  refine LW.seq (LW.region (LOps.st rfl rfl rfl (LOp.assign rfl rfl) (LOps.nil (thn_n (LW.seq (LW.region (LOps.st rfl rfl rfl (LOp.move rfl rfl) (LOps.st rfl rfl rfl (LOp.move rfl rfl) ?_))))))))
  obtain ⟨v1, h_v1, hr⟩ := bind_get hr
  refine LOps.st rfl rfl rfl (LOp.call rfl rfl rfl (by kernel_rfl) (cF158 h_v1)) (LOps.st rfl rfl rfl (LOp.assign rfl rfl) (LOps.nil (thn_n (LW.seq (LW.seq (LW.region (LOps.st rfl rfl rfl (LOp.move rfl rfl) (LOps.st rfl rfl rfl (LOp.bin rfl rfl rfl rfl) (LOps.nil (thn_n ?_))))))))))
  refine LW.cond rfl (fun (g1 : (v1.1 == (-1)) = true) => ?_) (fun (g1 : (v1.1 == (-1)) = false) => ?_)
  ·
    have hr := ite_t g1 hr
    refine LW.seq (LW.region (LOps.st rfl rfl rfl (LOp.move rfl rfl) (LOps.st rfl rfl rfl (LOp.assign rfl rfl) (LOps.nil (thn_n (LW.ret (thn_r ?_)))))))
    obtain rfl := Option.some.inj hr
    refine fin_ret (.one (.tmp rfl)) ?_
    exact ⟨rfl, rfl⟩
  ·
    have hr := ite_f g1 hr
    refine LW.skip (thn_n (LW.seq (LW.seq (LW.region (LOps.st rfl rfl rfl (LOp.move rfl rfl) (LOps.st rfl rfl rfl (LOp.bin rfl rfl rfl rfl) (LOps.st rfl rfl rfl (LOp.assign rfl rfl) (LOps.nil (thn_n ?_)))))))))
    obtain ⟨v2, hb_v2, ho_v2⟩ := bind_get hr
    clear hr
    refine LW.tail (E := [(0, .vec 4 15 (v2.o15.map vtP).length 0 kk), (4, .zs), (5, .p (.int .i64 v2.i))]) (O := [.dead, .dead, .dead, .box [.zs, .zs], .box [.zs, .zs], .dead, .vec 5 (wB.map blkP), .vec 4 (v2.o7.map vtP), .map (entsOf idP (fun v => .p (.int .i64 v)) sm), .map (entsOf vtP (fun v => .p (.bool v)) v2.o9), .box [.vec 5 6 (wB.map blkP).length 0 (wB.map blkP).length, .vec 4 7 (v2.o7.map vtP).length 0 (v2.o7.map vtP).length, .map 8, .map 9, .p (.int .i64 upto), .p (.bool v2.o10_5)], .dead, .dead, .dead, .vec 5 (lB.map blkP), .vec 4 (v2.o15.map vtP), .box [.vec 5 14 n0 0 k0, .vec 4 15 n1 0 k1]]) ?_ (fun env_v2 H_v2 hw_v2 => ?_)
    · refine LW.block ?_
      refine LW.iterB (E := fun x1 : F138_L1 => [(0, .vec 4 15 (x1.o15.map vtP).length 0 kk), (1, .fn 154 [.ptr 10 0] []), (4, .zs), (5, .p (.int .i64 x1.i)), (6, .p (.int .i64 x1.j))]) (O := fun x1 => [.dead, .dead, .dead, .box [.zs, .zs], .box [.zs, .zs], .dead, .vec 5 (wB.map blkP), .vec 4 (x1.o7.map vtP), .map (entsOf idP (fun v => .p (.int .i64 v)) sm), .map (entsOf vtP (fun v => .p (.bool v)) x1.o9), .box [.vec 5 6 (wB.map blkP).length 0 (wB.map blkP).length, .vec 4 7 (x1.o7.map vtP).length 0 (x1.o7.map vtP).length, .map 8, .map 9, .p (.int .i64 upto), .p (.bool x1.o10_5)], .dead, .dead, .dead, .vec 5 (lB.map blkP), .vec 4 (x1.o15.map vtP), .box [.vec 5 14 n0 0 k0, .vec 4 15 n1 0 k1]]) hb_v2 (Weak.of 17 ⟨rfl, rfl, rfl, rfl, rfl, trivial⟩ rfl rfl rfl (lowObjs_cons rfl (lowObjs_cons rfl (lowObjs_cons rfl (lowObjs_cons rfl (lowObjs_cons rfl (lowObjs_cons rfl (lowObjs_cons rfl (lowObjs_cons rfl (lowObjs_cons (entsLow (fun _ => rfl) _) (lowObjs_cons (entsLow (fun _ => rfl) _) (lowObjs_cons rfl (lowObjs_cons rfl (lowObjs_cons rfl (lowObjs_cons rfl (lowObjs_cons rfl (lowObjs_cons rfl (lowObjs_cons rfl rfl)))))))))))))))))) (fun x1 z_x1 hr hb_x1 => ?_)
      unfold F138_s1 at hr
      refine LW.seq (LW.seq (LW.region (LOps.st rfl rfl rfl (LOp.move rfl rfl) (LOps.st rfl rfl rfl (LOp.move rfl rfl) (LOps.st rfl rfl rfl (LOp.lenVP rfl rfl rfl (by kernel_rfl)) (LOps.st rfl rfl rfl (LOp.bin rfl rfl rfl rfl) (LOps.nil (thn_n ?_))))))))
      refine LW.cond rfl (fun (g2 : (decide (x1.j < (kk : Int))) = true) => ?_) (fun (g2 : (decide (x1.j < (kk : Int))) = false) => ?_)
      ·
        have hr := ite_t g2 hr
        refine LW.skip (thn_n (LW.seq (LW.block (LW.seq (LW.region (LOps.st rfl rfl rfl (LOp.move rfl rfl) (LOps.st rfl rfl rfl (LOp.move rfl rfl) ?_)))))))
        obtain ⟨y1, h_y1, hr⟩ := bind_get hr
        refine LOps.st rfl rfl rfl (LOp.indexAddrVP rfl rfl rfl rfl st68 h_y1) (LOps.st rfl rfl rfl (LOp.loadVX rfl rfl rfl vt82 (ix_take h_y1).1 rfl rfl rfl rfl) (LOps.st rfl rfl rfl (LOp.alloc rfl zt82 rfl rfl) (LOps.st rfl rfl rfl (LOp.store rfl rfl rfl rfl vt82 rfl rfl rfl rfl) (LOps.nil (thn_n (LW.seq (LW.region (LOps.st rfl rfl rfl (LOp.move rfl rfl) (LOps.st rfl rfl rfl (LOp.load rfl rfl rfl vt82 rfl rfl) ?_)))))))))
        obtain ⟨v3, h_v3, hr⟩ := bind_get hr
        refine LOps.st rfl rfl rfl (LOp.call rfl rfl rfl (by kernel_rfl) (LC.pre (cF136 h_v3) rfl (lowObjs_cons rfl (lowObjs_cons rfl (lowObjs_cons rfl (lowObjs_cons rfl (lowObjs_cons rfl (lowObjs_cons rfl (lowObjs_cons rfl (lowObjs_cons rfl (lowObjs_cons (entsLow (fun _ => rfl) _) (lowObjs_cons (entsLow (fun _ => rfl) _) (lowObjs_cons rfl (lowObjs_cons rfl (lowObjs_cons rfl (lowObjs_cons rfl (lowObjs_cons rfl (lowObjs_cons rfl (lowObjs_cons rfl rfl))))))))))))))))) rfl)) ?_
        refine LOps.st rfl rfl rfl (LOp.not rfl rfl) (LOps.nil (thn_n ?_))
        refine LW.cond rfl (fun (g3 : (!v3.1) = true) => ?_) (fun (g3 : (!v3.1) = false) => ?_)
        ·
          have hr := ite_t g3 hr
          refine LW.seq (LW.region (LOps.st rfl rfl rfl (LOp.move rfl rfl) (LOps.st rfl rfl rfl (LOp.move rfl rfl) (LOps.st rfl rfl rfl (LOp.load rfl rfl rfl vt82 rfl rfl) ?_))))
          obtain ⟨y2, h_y2, hr⟩ := bind_get hr
          refine LOps.st rfl rfl rfl (LOp.indexAddrVP rfl rfl rfl rfl st68 h_y2) ?_
          refine LOps.st rfl rfl rfl (LOp.storeVP (f := vtP) (l := x1.o15) y1 rfl rfl rfl rfl vt82 (fun _ => rfl) (ix_take h_y2).1 rfl rfl rfl rfl rfl rfl rfl) ?_
          refine LOps.nil (thn_n (LW.region (LOps.st rfl rfl rfl (LOp.move rfl rfl) (LOps.st rfl rfl rfl (LOp.bin rfl rfl rfl rfl) (LOps.st rfl rfl rfl (LOp.assign rfl rfl) (LOps.nil (inBlk_n (thn_n (LW.region (LOps.st rfl rfl rfl (LOp.move rfl rfl) (LOps.st rfl rfl rfl (LOp.bin rfl rfl rfl rfl) ?_)))))))))))
          refine LOps.st rfl rfl rfl (LOp.assign rfl rfl) (LOps.nil (thn_n ?_))
          obtain rfl := Option.some.inj hr
          exact ⟨_, rfl, Weak.of 17 ⟨(pset (rfl)), rfl, rfl, rfl, rfl, trivial⟩ rfl rfl rfl (lowObjs_cons rfl (lowObjs_cons rfl (lowObjs_cons rfl (lowObjs_cons rfl (lowObjs_cons rfl (lowObjs_cons rfl (lowObjs_cons rfl (lowObjs_cons rfl (lowObjs_cons (entsLow (fun _ => rfl) _) (lowObjs_cons (entsLow (fun _ => rfl) _) (lowObjs_cons rfl (lowObjs_cons rfl (lowObjs_cons rfl (lowObjs_cons rfl (lowObjs_cons rfl (lowObjs_cons rfl (lowObjs_cons rfl rfl)))))))))))))))))⟩
        ·
          have hr := ite_f g3 hr
          refine LW.skip (inBlk_n (thn_n (LW.region (LOps.st rfl rfl rfl (LOp.move rfl rfl) (LOps.st rfl rfl rfl (LOp.bin rfl rfl rfl rfl) (LOps.st rfl rfl rfl (LOp.assign rfl rfl) (LOps.nil (thn_n ?_))))))))
          obtain rfl := Option.some.inj hr
          exact ⟨_, rfl, Weak.of 17 ⟨rfl, rfl, rfl, rfl, rfl, trivial⟩ rfl rfl rfl (lowObjs_cons rfl (lowObjs_cons rfl (lowObjs_cons rfl (lowObjs_cons rfl (lowObjs_cons rfl (lowObjs_cons rfl (lowObjs_cons rfl (lowObjs_cons rfl (lowObjs_cons (entsLow (fun _ => rfl) _) (lowObjs_cons (entsLow (fun _ => rfl) _) (lowObjs_cons rfl (lowObjs_cons rfl (lowObjs_cons rfl (lowObjs_cons rfl (lowObjs_cons rfl (lowObjs_cons rfl (lowObjs_cons rfl rfl)))))))))))))))))⟩
      ·
        have hr := ite_f g2 hr
        refine LW.exit (thn_e (thn_e (inBlk_self (thn_n ?_))))
        obtain rfl := Option.some.inj hr
        have hr := congrArg some (hb_x1 _ rfl)
        obtain rfl := Option.some.inj hr
        exact Weak.of 17 ⟨rfl, rfl, rfl, trivial⟩ rfl rfl rfl (lowObjs_cons rfl (lowObjs_cons rfl (lowObjs_cons rfl (lowObjs_cons rfl (lowObjs_cons rfl (lowObjs_cons rfl (lowObjs_cons rfl (lowObjs_cons rfl (lowObjs_cons (entsLow (fun _ => rfl) _) (lowObjs_cons (entsLow (fun _ => rfl) _) (lowObjs_cons rfl (lowObjs_cons rfl (lowObjs_cons rfl (lowObjs_cons rfl (lowObjs_cons rfl (lowObjs_cons rfl (lowObjs_cons rfl rfl)))))))))))))))))
    · have hr := ho_v2
      clear hb_v2
      refine thn_n (LW.weak hw_v2 (LW.seq (LW.region (LOps.st rfl rfl rfl (LOp.move rfl rfl) (LOps.st rfl rfl rfl (LOp.move rfl rfl) ?_)))))
      obtain ⟨q1, hr⟩ := grd_get hr
      refine LOps.st rfl rfl rfl (LOp.sliceVLo rfl rfl rfl rfl st68 q1) ?_
      obtain ⟨q2, hr⟩ := grd_get hr
      refine LOps.st rfl rfl rfl (LOp.clearVP (f := vtP) (zs := [.int .i64 0, .int .i64 0, .int .u64 0, .int .u64 0]) (Vt.mk 0 0 (0, 0)) rfl rfl rfl st68 (fun _ => rfl) (by kernel_rfl) rfl q2 rfl) ?_
      refine LOps.nil (thn_n (LW.seq (LW.ent (Ent.vlen (t := 0) (n' := ((clrL v2.o15 v2.i.toNat (kk - v2.i.toNat) (Vt.mk 0 0 (0, 0))).map vtP).length) rfl (clr_len q2)) (LW.region (LOps.st rfl rfl rfl (LOp.move rfl rfl) (LOps.st rfl rfl rfl (LOp.move rfl rfl) ?_))))))
      obtain ⟨q3, hr⟩ := grd_get hr
      refine LOps.st rfl rfl rfl (LOp.sliceVHi rfl rfl rfl rfl st68 q3) (LOps.st rfl rfl rfl (LOp.assign rfl rfl) (LOps.nil (thn_n (LW.ret ?_))))
      obtain rfl := Option.some.inj hr
      refine fin_ret (.one (.tmp rfl)) ?_
      exact ⟨rfl, rfl⟩
structure Ac where
  Tick : Int
  To : Int
  Offer : Bool
  B : List Bk
  V : List Vt
structure Of where
  Slot : Int
  From : Int
  B : Bk
  V : Vw
def ofP (o : Of) : PV := .agg [.int .i64 o.Slot, .int .i64 o.From, .int .i64 o.B.Slot, .int .i64 o.B.From, .int .u64 o.B.Parent.1, .int .u64 o.B.Parent.2, .int .u64 o.B.Salt, .slice 5 (o.V.B.map blkP), .slice 4 (o.V.V.map vtP)]
structure Nd where
  No : Int
  Tick : Int
  V : Vw
  In : Vw
  O : List Of
  C : Cu
  Full : Bool
def ndP (n : Nd) : PV := .agg [.int .i64 n.No, .int .i64 n.Tick, .slice 5 (n.V.B.map blkP), .slice 4 (n.V.V.map vtP), .slice 5 (n.In.B.map blkP), .slice 4 (n.In.V.map vtP), .slice 9 (n.O.map ofP), .int .u64 n.C.ID.1, .int .u64 n.C.ID.2, .int .i64 n.C.Slot, .int .i64 n.C.Revoked, .bool n.Full]
structure Wd where
  C : Cf
  Bad : List Int
  Tick : Int
  N : List Nd
  O : List Of
structure Du where
  frm : Int
  slot : Int
  deriving DecidableEq
def duP (d : Du) : PV := .agg [.int .i64 d.frm, .int .i64 d.slot]
theorem duKey : KeyOk duP 2 true := ⟨fun a b => by
  obtain ⟨x, y⟩ := a
  obtain ⟨z, w⟩ := b
  simp only [duP, keyEq, eqCells2, Bool.and_true, Du.mk.injEq, Option.some.injEq]
  by_cases h1 : x = z <;> by_cases h2 : y = w <;> simp [h1, h2], fun _ => rfl⟩
def insV (v : Vt) : List Vt → List Vt
  | [] => [v]
  | x :: r => if v.From < x.From then v :: x :: r else x :: insV v r
def sortV : List Vt → List Vt
  | [] => []
  | v :: r => insV v (sortV r)
def RiseV (l : List Vt) : Prop := l.Pairwise fun a b => a.From ≤ b.From
theorem insV_perm (v : Vt) : ∀ l : List Vt, (insV v l).Perm (v :: l)
  | [] => .refl _
  | x :: r => by
    unfold insV
    split
    · exact .refl _
    · exact ((insV_perm v r).cons x).trans (.swap v x r)
theorem sortV_perm : ∀ l : List Vt, (sortV l).Perm l
  | [] => .refl _
  | v :: r => (insV_perm v (sortV r)).trans ((sortV_perm r).cons v)
theorem insV_rise {v : Vt} : ∀ {l : List Vt}, RiseV l → RiseV (insV v l)
  | [], _ => by simp [insV, RiseV]
  | x :: r, h => by
    have h2 := List.pairwise_cons.1 h
    unfold insV
    split
    · rename_i hl
      exact List.pairwise_cons.2 ⟨fun y hy => by
        rcases List.mem_cons.1 hy with e | hy
        · subst e; omega
        · have := h2.1 y hy; omega, h⟩
    · rename_i hl
      refine List.pairwise_cons.2 ⟨fun y hy => ?_, insV_rise h2.2⟩
      rcases List.mem_cons.1 ((insV_perm v r).mem_iff.1 hy) with e | hy
      · subst e; omega
      · exact h2.1 y hy
theorem sortV_rise : ∀ l : List Vt, RiseV (sortV l)
  | [] => .nil
  | _ :: r => insV_rise (sortV_rise r)
theorem rise_one : ∀ {a b : List Vt}, a.Perm b → RiseV a → RiseV b → (∀ x ∈ a, ∀ y ∈ a, x.From = y.From → x = y) → a = b
  | [], b, h, _, _, _ => (List.Perm.nil_eq h)
  | x :: r, b, h, ha, hb, hd => by
    cases b with
    | nil => exact absurd h.length_eq (by simp)
    | cons y s =>
      have ha2 := List.pairwise_cons.1 ha
      have hb2 := List.pairwise_cons.1 hb
      have hy : y ∈ x :: r := h.mem_iff.2 (.head _)
      have hx : x ∈ y :: s := h.mem_iff.1 (.head _)
      have e : x = y := by
        refine hd x (.head _) y hy ?_
        have h1 : x.From ≤ y.From := by
          rcases List.mem_cons.1 hy with e | hy
          · rw [e]; omega
          · exact ha2.1 y hy
        have h2 : y.From ≤ x.From := by
          rcases List.mem_cons.1 hx with e | hx
          · rw [e]; omega
          · exact hb2.1 x hx
        omega
      subst e
      rw [rise_one (List.Perm.cons_inv h) ha2.2 hb2.2 fun p hp q hq => hd p (.tail _ hp) q (.tail _ hq)]
theorem sortV_one {a b : List Vt} (h : a.Perm b) (hd : ∀ x ∈ a, ∀ y ∈ a, x.From = y.From → x = y) : sortV a = sortV b :=
  rise_one ((sortV_perm a).trans (h.trans (sortV_perm b).symm)) (sortV_rise a) (sortV_rise b) fun x hx y hy => hd x ((sortV_perm a).mem_iff.1 hx) y ((sortV_perm a).mem_iff.1 hy)
theorem sortV_of {a b : List Vt} (h : a.Perm b) (hb : RiseV b) (hd : ∀ x ∈ a, ∀ y ∈ a, x.From = y.From → x = y) : sortV a = b :=
  rise_one ((sortV_perm a).trans h) (sortV_rise a) hb fun x hx y hy => hd x ((sortV_perm a).mem_iff.1 hx) y ((sortV_perm a).mem_iff.1 hy)
def sortOk (l : List Vt) : Bool := decide (l.length ≤ 1000000 ∧ ∀ x ∈ l, ∀ y ∈ l, x.From = y.From → x = y)
open Go.Proofs
theorem ob {α β : Type} {x : α} {f : α → Option β} : (some x).bind f = f x := by
  have h : ∀ o : Option α, o = some x → o.bind f = f x := by intro o e; subst e; rfl
  exact h _ rfl
theorem ct {α : Sort _} {x y : α} : (bif true then x else y) = x := by
  have h : ∀ b : Bool, b = true → (bif b then x else y) = x := by intro o e; subst e; rfl
  exact h _ rfl
theorem cf {α : Sort _} {x y : α} : (bif false then x else y) = y := by
  have h : ∀ b : Bool, b = false → (bif b then x else y) = y := by intro o e; subst e; rfl
  exact h _ rfl
theorem ix_nat {α : Type} {l : List α} {n : Nat} {y : α} (h : l[n]? = some y) : ix l (n : Int) = some y := by
  unfold ix; rw [if_pos (by omega)]; simpa using h
theorem get_of {α : Type} {l : List α} {n : Nat} (h : n < l.length) : ∃ y, l[n]? = some y ∧ y ∈ l := ⟨l[n], List.getElem?_eq_getElem h, List.getElem_mem h⟩
theorem wrap_succ {n : Nat} (h : n < 4000000000) : IntKind.i64.wrap ((n : Int) + 1) = ((n + 1 : Nat) : Int) := by
  rw [wrapI (by omega) (by omega)]; omega
theorem room_ok {a b c : Nat} (h : a + b ≤ 1000000) (hc : c ≤ 1000) : room a b c = true := by
  have : (a + b) * (c + 1) ≤ 1000000 * 1001 := Nat.mul_le_mul h (by omega)
  exact decide_eq_true (by omega)
theorem inL_hi {α : Type} {l : List α} {i : Int} (h0 : 0 ≤ i) (h : i ≤ l.length) : inL l 0 i = true := decide_eq_true ⟨Int.le_refl _, h0, h⟩
theorem big_gt {n : Nat} (h : n < 4000000000000000000) : n < big := by unfold big; omega
theorem isListO {α : Type} {f : α → PV} {O : α → Prop} {T : TS} (hf : ∀ p, TIs T p → ∃ a, p = f a ∧ O a) : ∀ {xs : List PV}, (∀ x ∈ xs, TIs T x) → ∃ l : List α, xs = l.map f ∧ ∀ a ∈ l, O a
  | [], _ => ⟨[], rfl, fun a h => by simp at h⟩
  | x :: xs, h => by
    obtain ⟨a, rfl, ha⟩ := hf x (h x (.head _))
    obtain ⟨l, rfl, hl⟩ := isListO hf fun y hy => h y (.tail _ hy)
    exact ⟨a :: l, rfl, fun b hb => by
      cases hb with
      | head => exact ha
      | tail _ hb => exact hl b hb⟩
theorem isSliceO {α : Type} {f : α → PV} {O : α → Prop} {T : TS} {m : Nat} (hf : ∀ p, TIs T p → ∃ a, p = f a ∧ O a) {p : PV} (h : TIs (.slice m T) p) : ∃ l : List α, p = .slice m (l.map f) ∧ ∀ a ∈ l, O a := by
  cases h with
  | slice h =>
    obtain ⟨l, rfl, hl⟩ := isListO hf h
    exact ⟨l, rfl, hl⟩
def BkOk (b : Bk) : Prop := InKind .i64 b.Slot ∧ InKind .i64 b.From ∧ InKind .u64 b.Parent.1 ∧ InKind .u64 b.Parent.2 ∧ InKind .u64 b.Salt
theorem isBkO {p : PV} (h : TIs (.agg [.int .i64, .int .i64, .int .u64, .int .u64, .int .u64]) p) : ∃ c : Bk, p = blkP c ∧ BkOk c := by
  cases h with | agg h =>
  cases h with | cons a h => cases h with | cons b h => cases h with | cons c h => cases h with | cons d h => cases h with | cons e h =>
    cases h; cases a; cases b; cases c; cases d; cases e
    exact ⟨⟨_, _, (_, _), _⟩, rfl, by assumption, by assumption, by assumption, by assumption, by assumption⟩
section
variable {l : List Bk}
theorem F52_eq : F52 l = some (places l).isSome := by
  unfold F52
  cases h : places l <;> rfl
end
def Pl (n i : Int) : Prop := 1 ≤ n ∧ n ≤ 1000 ∧ 0 ≤ i ∧ i < n
instance (n i : Int) : Decidable (Pl n i) := inferInstanceAs (Decidable (_ ∧ _))
def rt (seed n i : Int) : Nat → Int
  | 0 => i
  | k + 1 => turnOf seed n k (rt seed n i k)
def toA (seed n i : Int) : Int := rt seed n i 10
open Go.Proofs
theorem count_loop {S R : Type} {step : S → Option (S ⊕ R)} {n : Nat} (g : Nat → S) (r : R) (hs : ∀ j, j < n → step (g j) = some (.inl (g (j + 1)))) (he : step (g n) = some (.inr r)) (hn : n < 4000000000000000000) :
    iter step big (g 0) = some r := by
  have key : ∀ (d k f : Nat), k + d = n → d < f → iter step f (g k) = some r := by
    intro d
    induction d with
    | zero =>
      intro k f hk hf
      obtain ⟨f, rfl⟩ : ∃ q, f = q + 1 := ⟨f - 1, by omega⟩
      obtain rfl : k = n := by omega
      unfold iter
      rw [he]
    | succ d ih =>
      intro k f hk hf
      obtain ⟨f, rfl⟩ : ∃ q, f = q + 1 := ⟨f - 1, by omega⟩
      unfold iter
      rw [hs k (by omega)]
      exact ih (k + 1) f (by omega) (by omega)
  exact key n 0 big (by omega) (big_gt hn)
def MayC (c : Cf) : Prop := 1 ≤ c.W.length ∧ c.W.length ≤ 12 ∧ (∀ w ∈ c.W, 0 ≤ w ∧ w ≤ 1099511627776) ∧ 1 ≤ c.Epoch ∧ c.Epoch ≤ 8 ∧ 0 ≤ c.Num ∧ c.Num ≤ c.Den ∧ 1 ≤ c.Den ∧ c.Den ≤ 1000
instance (c : Cf) : Decidable (MayC c) := inferInstanceAs (Decidable (_ ∧ _))
def pickL (p : Nat → Bool) : Nat → List Int
  | 0 => []
  | k + 1 => bif p k then pickL p k ++ [(k : Int)] else pickL p k
def OkS (c : Cf) (slot : Int) : Prop := MayC c ∧ 0 < slot ∧ slot ≤ 1048576
instance (c : Cf) (slot : Int) : Decidable (OkS c slot) := inferInstanceAs (Decidable (_ ∧ _))
def seedOf (c : Cf) (slot : Int) : Int := step c.Seed (IntKind.u64.wrap (IntKind.i64.wrap (slot.tdiv c.Epoch)))
def inP (c : Cf) (slot : Int) (j : Nat) : Bool := (toA (seedOf c slot) (c.W.length : Int) (j : Int)).tmod c.Epoch == slot.tmod c.Epoch
def cmP (c : Cf) (slot : Int) : List Int := if OkS c slot then pickL (inP c slot) c.W.length else []
def prP (c : Cf) (slot : Int) : Int := if OkS c slot then IntKind.i64.wrap ((step (step c.Seed 4294967296) (IntKind.u64.wrap slot)).tmod (IntKind.u64.wrap (c.W.length : Int))) else -1
def c0 : Cf := ⟨[5], 0, 1, 0, 4⟩
open Go.Proofs
open Go.Proofs
open Go.Proofs
structure FBook_L1 where
  t14 : Int
  o1 : List (Du × ID)
  o2 : List (Du × Bool)
def FBook_s1 (l : List Vt) (x1 : FBook_L1) : Option (FBook_L1 ⊕ FBook_L1) :=
  bif decide (x1.t14 < (l.length : Int)) then
    (ix l x1.t14).bind fun y1 =>
    bif (findE x1.o1 (Du.mk y1.From y1.Slot)).isSome then
      bif !(((((findE x1.o1 (Du.mk y1.From y1.Slot)).getD (0, 0)).1) == y1.Head.1) && (((((findE x1.o1 (Du.mk y1.From y1.Slot)).getD (0, 0)).2) == y1.Head.2) && true)) then
        some (.inl (FBook_L1.mk (IntKind.i64.wrap (x1.t14 + 1)) (setE x1.o1 (Du.mk y1.From y1.Slot) y1.Head) (setE x1.o2 (Du.mk y1.From y1.Slot) true)))
      else
        some (.inl (FBook_L1.mk (IntKind.i64.wrap (x1.t14 + 1)) (setE x1.o1 (Du.mk y1.From y1.Slot) y1.Head) x1.o2))
    else
      some (.inl (FBook_L1.mk (IntKind.i64.wrap (x1.t14 + 1)) (setE x1.o1 (Du.mk y1.From y1.Slot) y1.Head) x1.o2))
  else
    some (.inr (FBook_L1.mk x1.t14 x1.o1 x1.o2))
def FBook (l : List Vt) : Option (List (Du × ID) × List (Du × Bool)) :=
  (iter (FBook_s1 l) big (FBook_L1.mk 0 ([] : List (Du × ID)) ([] : List (Du × Bool)))).bind fun v1 =>
  some (v1.o1, v1.o2)
set_option maxRecDepth 100000 in
theorem cFBook {l : List Vt} {r_ : List (Du × ID) × List (Du × Bool)} (hr : FBook l = some r_) : LC Tryz.prog 164 [.p (.slice 4 (l.map vtP))] [] (Is (.agg [.map 1, .map 2]) [.box [.map 1, .map 2], .map (entsOf duP (fun v => .p (idP v)) r_.1), .map (entsOf duP (fun v => .p (.bool v)) r_.2), .box [.map 1, .map 2]]) := by
  refine LC.start Tryz.func164 rfl rfl rfl ?_
  unfold FBook at hr
  refine LW.seq (LW.region (LOps.st rfl rfl rfl (LOp.alloc rfl zt1167 rfl rfl) (LOps.nil (thn_n (LW.seq (LW.region (LOps.st rfl rfl rfl (LOp.makeMap rfl rfl rfl) (LOps.st rfl rfl rfl (LOp.makeMap rfl rfl rfl) (LOps.st rfl rfl rfl (LOp.build rfl bt1167 rfl rfl rfl) (LOps.st rfl rfl rfl (LOp.alloc rfl zt1167 rfl rfl) (LOps.st rfl rfl rfl (LOp.store rfl rfl rfl rfl vt1167 rfl rfl rfl rfl) ?_)))))))))))
  refine LOps.nil (thn_n (LW.seq (LW.seq (LW.region (LOps.st rfl rfl rfl (LOp.move rfl rfl) (LOps.st rfl rfl rfl (LOp.lenM rfl rfl (by kernel_rfl)) (LOps.st rfl rfl rfl (LOp.move rfl rfl) (LOps.nil (thn_n ?_)))))))))
  obtain ⟨v1, hb_v1, ho_v1⟩ := bind_get hr
  clear hr
  refine LW.tail (E := [(2, .ptr 0 0), (3, .ptr 3 0)]) (O := [.box [.nilmap, .nilmap], .map (entsOf duP (fun v => .p (idP v)) v1.o1), .map (entsOf duP (fun v => .p (.bool v)) v1.o2), .box [.map 1, .map 2]]) ?_ (fun env_v1 H_v1 hw_v1 => ?_)
  · refine LW.block ?_
    refine LW.iterB (E := fun x1 : FBook_L1 => [(2, .ptr 0 0), (3, .ptr 3 0), (12, .p (.slice 4 (l.map vtP))), (13, .p (.int .i64 (l.length : Int))), (14, .p (.int .i64 x1.t14))]) (O := fun x1 => [.box [.nilmap, .nilmap], .map (entsOf duP (fun v => .p (idP v)) x1.o1), .map (entsOf duP (fun v => .p (.bool v)) x1.o2), .box [.map 1, .map 2]]) hb_v1 (Weak.of 4 ⟨rfl, rfl, rfl, rfl, rfl, trivial⟩ rfl rfl rfl (lowObjs_cons rfl (lowObjs_cons (entsLow (fun _ => rfl) _) (lowObjs_cons (entsLow (fun _ => rfl) _) (lowObjs_cons rfl rfl))))) (fun x1 z_x1 hr hb_x1 => ?_)
    unfold FBook_s1 at hr
    refine LW.seq (LW.region (LOps.st rfl rfl rfl (LOp.bin rfl rfl rfl rfl) (LOps.nil (thn_n (LW.seq ?_)))))
    refine LW.cond rfl (fun (g1 : (decide (x1.t14 < (l.length : Int))) = true) => ?_) (fun (g1 : (decide (x1.t14 < (l.length : Int))) = false) => ?_)
    ·
      have hr := ite_t g1 hr
      refine LW.skip (thn_n (LW.seq (LW.block (LW.seq (LW.region ?_)))))
      obtain ⟨y1, h_y1, hr⟩ := bind_get hr
      refine LOps.st rfl rfl rfl (LOp.indexAddrX rfl rfl rfl st68 h_y1 rfl) (LOps.st rfl rfl rfl (LOp.loadC rfl rfl rfl vt82 rfl rfl) (LOps.st rfl rfl rfl (LOp.alloc rfl zt82 rfl rfl) (LOps.st rfl rfl rfl (LOp.store rfl rfl rfl rfl vt82 rfl rfl rfl rfl) (LOps.nil (thn_n (LW.seq (LW.region (LOps.st rfl rfl rfl (LOp.fieldAddr rfl rfl ft82_0) (LOps.st rfl rfl rfl (LOp.load rfl rfl rfl vt3 rfl rfl) (LOps.st rfl rfl rfl (LOp.fieldAddr rfl rfl ft82_1) (LOps.st rfl rfl rfl (LOp.load rfl rfl rfl vt3 rfl rfl) ?_)))))))))))
      refine LOps.st rfl rfl rfl (LOp.build rfl bt1170 rfl rfl rfl) (LOps.st rfl rfl rfl (LOp.alloc rfl zt1170 rfl rfl) (LOps.st rfl rfl rfl (LOp.store rfl rfl rfl rfl vt1170 rfl rfl rfl rfl) (LOps.nil (thn_n (LW.seq (LW.region (LOps.st rfl rfl rfl (LOp.fieldAddr rfl rfl ft1167_0) (LOps.st rfl rfl rfl (LOp.load rfl rfl rfl vt1164 rfl rfl) (LOps.st rfl rfl rfl (LOp.load rfl rfl rfl vt1170 rfl rfl) ?_)))))))))
      refine LOps.st rfl rfl rfl (LOp.getX (f := duP) (g := (fun v => .p (idP v))) (Du.mk y1.From y1.Slot) (0, 0) duKey rfl rfl rfl rfl mt1164 zl24 rfl rfl) ?_
      refine LOps.st rfl rfl rfl (LOp.move rfl rfl) (LOps.st rfl rfl rfl (LOp.extract rfl rfl rfl) (LOps.st rfl rfl rfl (LOp.extract rfl rfl rfl) (LOps.st rfl rfl rfl (LOp.alloc rfl zt24 rfl rfl) (LOps.st rfl rfl rfl (LOp.store rfl rfl rfl rfl vt24 rfl rfl rfl rfl) (LOps.st rfl rfl rfl (LOp.assign rfl rfl) (LOps.nil (thn_n (LW.seq (LW.region (LOps.st rfl rfl rfl (LOp.fieldAddr rfl rfl ft1167_0) (LOps.st rfl rfl rfl (LOp.load rfl rfl rfl vt1164 rfl rfl) ?_)))))))))))
      refine LOps.st rfl rfl rfl (LOp.load rfl rfl rfl vt1170 rfl rfl) (LOps.st rfl rfl rfl (LOp.fieldAddr rfl rfl ft82_2) (LOps.st rfl rfl rfl (LOp.load rfl rfl rfl vt24 rfl rfl) ?_))
      refine LOps.st rfl rfl rfl (LOp.setX (f := duP) (g := (fun v => .p (idP v))) (Du.mk y1.From y1.Slot) y1.Head duKey (.inl rfl) rfl rfl rfl rfl rfl mt1164 rfl) ?_
      refine LOps.nil (thn_n (LW.seq (LW.region (LOps.st rfl rfl rfl (LOp.move rfl rfl) (LOps.st rfl rfl rfl (LOp.move rfl rfl) ?_)))))
      refine LOps.cases 36 rfl (fun (g2 : ((findE x1.o1 (Du.mk y1.From y1.Slot)).isSome) = true) => ?_) (fun (g2 : ((findE x1.o1 (Du.mk y1.From y1.Slot)).isSome) = false) => ?_)
      ·
        have hr := ite_t g2 hr
        refine LOps.gd rfl rfl rfl (gd g2 rfl) rfl (LOp.load rfl rfl rfl vt24 rfl rfl) (LOps.gd rfl rfl rfl (gd g2 rfl) rfl (LOp.fieldAddr rfl rfl ft82_2) (LOps.gd rfl rfl rfl (gd g2 rfl) rfl (LOp.load rfl rfl rfl vt24 rfl rfl) (LOps.gd rfl rfl rfl (gd g2 rfl) rfl (LOp.neqAgg rfl rfl rfl rfl rfl eqt24) (LOps.st rfl rfl rfl (LOp.pickT rfl (gdl g2 rfl) rfl) (LOps.nil (thn_n ?_))))))
        refine LW.cond rfl (fun (g3 : (!(((((findE x1.o1 (Du.mk y1.From y1.Slot)).getD (0, 0)).1) == y1.Head.1) && (((((findE x1.o1 (Du.mk y1.From y1.Slot)).getD (0, 0)).2) == y1.Head.2) && true))) = true) => ?_) (fun (g3 : (!(((((findE x1.o1 (Du.mk y1.From y1.Slot)).getD (0, 0)).1) == y1.Head.1) && (((((findE x1.o1 (Du.mk y1.From y1.Slot)).getD (0, 0)).2) == y1.Head.2) && true))) = false) => ?_)
        ·
          have hr := ite_t g3 hr
          refine LW.region (LOps.st rfl rfl rfl (LOp.fieldAddr rfl rfl ft1167_1) (LOps.st rfl rfl rfl (LOp.load rfl rfl rfl vt1165 rfl rfl) (LOps.st rfl rfl rfl (LOp.load rfl rfl rfl vt1170 rfl rfl) ?_)))
          refine LOps.st rfl rfl rfl (LOp.setX (f := duP) (g := (fun v => .p (.bool v))) (Du.mk y1.From y1.Slot) true duKey (.inl rfl) rfl rfl rfl rfl rfl mt1165 rfl) ?_
          refine LOps.nil (inBlk_n (thn_n (LW.region (LOps.st rfl rfl rfl (LOp.bin rfl rfl rfl rfl) (LOps.st rfl rfl rfl (LOp.move rfl rfl) (LOps.nil (thn_n ?_)))))))
          obtain rfl := Option.some.inj hr
          exact ⟨_, rfl, Weak.of 4 ⟨rfl, rfl, rfl, rfl, rfl, trivial⟩ rfl rfl rfl (lowObjs_cons rfl (lowObjs_cons (entsLow (fun _ => rfl) _) (lowObjs_cons (entsLow (fun _ => rfl) _) (lowObjs_cons rfl rfl))))⟩
        ·
          have hr := ite_f g3 hr
          refine LW.skip (inBlk_n (thn_n (LW.region (LOps.st rfl rfl rfl (LOp.bin rfl rfl rfl rfl) (LOps.st rfl rfl rfl (LOp.move rfl rfl) (LOps.nil (thn_n ?_)))))))
          obtain rfl := Option.some.inj hr
          exact ⟨_, rfl, Weak.of 4 ⟨rfl, rfl, rfl, rfl, rfl, trivial⟩ rfl rfl rfl (lowObjs_cons rfl (lowObjs_cons (entsLow (fun _ => rfl) _) (lowObjs_cons (entsLow (fun _ => rfl) _) (lowObjs_cons rfl rfl))))⟩
      ·
        have hr := ite_f g2 hr
        refine LOps.sk rfl rfl rfl (gd g2 rfl) rfl rfl (LOps.sk rfl rfl rfl (gd g2 rfl) rfl rfl (LOps.sk rfl rfl rfl (gd g2 rfl) rfl rfl (LOps.sk rfl rfl rfl (gd g2 rfl) rfl rfl (LOps.st rfl rfl rfl (LOp.pickF rfl (gdl g2 rfl) rfl) (LOps.nil (thn_n (LW.condF rfl (LW.skip (inBlk_n (thn_n (LW.region ?_)))))))))))
        refine LOps.st rfl rfl rfl (LOp.bin rfl rfl rfl rfl) (LOps.st rfl rfl rfl (LOp.move rfl rfl) (LOps.nil (thn_n ?_)))
        obtain rfl := Option.some.inj hr
        exact ⟨_, rfl, Weak.of 4 ⟨rfl, rfl, rfl, rfl, rfl, trivial⟩ rfl rfl rfl (lowObjs_cons rfl (lowObjs_cons (entsLow (fun _ => rfl) _) (lowObjs_cons (entsLow (fun _ => rfl) _) (lowObjs_cons rfl rfl))))⟩
    ·
      have hr := ite_f g1 hr
      refine LW.exit (thn_e (thn_e (inBlk_self (thn_n ?_))))
      obtain rfl := Option.some.inj hr
      have hr := congrArg some (hb_x1 _ rfl)
      obtain rfl := Option.some.inj hr
      exact Weak.of 4 ⟨rfl, rfl, trivial⟩ rfl rfl rfl (lowObjs_cons rfl (lowObjs_cons (entsLow (fun _ => rfl) _) (lowObjs_cons (entsLow (fun _ => rfl) _) (lowObjs_cons rfl rfl))))
  · have hr := ho_v1
    clear hb_v1
    refine thn_n (LW.weak hw_v1 (LW.seq (LW.region (LOps.st rfl rfl rfl (LOp.load rfl rfl rfl vt1167 rfl rfl) (LOps.st rfl rfl rfl (LOp.store rfl rfl rfl rfl vt1167 rfl rfl rfl rfl) (LOps.nil (thn_n (LW.ret ?_))))))))
    obtain rfl := Option.some.inj hr
    refine fin_ret (.one (.cellAgg rfl rfl (by kernel_rfl) rfl)) ?_
    exact ⟨rfl, rfl⟩
end Go.Mg
namespace Go.Proofs
def Tryz.sortVt_ren : Go.Shelf.Ren := ⟨fun | 6 => 196 | 15 => 219 | 14 => 218 | 28 => 234 | 29 => 235 | 20 => 226 | 21 => 227 | 22 => 228 | 23 => 229 | 24 => 230 | 25 => 231 | 26 => 232 | 27 => 233 | 46 => 240 | 47 => 241 | 48 => 242 | 49 => 243 | 50 => 244 | 57 => 249 | n => n, fun | 22 => 27 | 24 => 57 | 25 => 239 | 3 => 3 | 39 => 160 | 0 => 0 | 53 => 166 | 55 => 23 | 4 => 4 | 46 => 262 | 45 => 261 | 50 => 81 | 5 => 5 | 9 => 9 | 66 => 273 | 70 => 277 | 76 => 282 | 77 => 283 | n => n, fun | n => n⟩
theorem Tryz.sortVt : SlLaysF0.n6 Tryz.prog Tryz.sortVt_ren where
  mixed := by kernel_rfl
  f6 := ⟨ "slices.SortFunc[[]marigold/api.Vote,marigold/api.Vote]", by decide, Tryz.func196.trans (congrArg some (by kernel_rfl))⟩
  f14 := ⟨ "slices.pdqsortCmpFunc[marigold/api.Vote]", by decide, Tryz.func218.trans (congrArg some (by kernel_rfl))⟩
  f15 := Tryz.func219.trans (congrArg some (by kernel_rfl))
  f20 := ⟨ "slices.insertionSortCmpFunc[marigold/api.Vote]", by decide, Tryz.func226.trans (congrArg some (by kernel_rfl))⟩
  f21 := ⟨ "slices.heapSortCmpFunc[marigold/api.Vote]", by decide, Tryz.func227.trans (congrArg some (by kernel_rfl))⟩
  f22 := ⟨ "slices.breakPatternsCmpFunc[marigold/api.Vote]", by decide, Tryz.func228.trans (congrArg some (by kernel_rfl))⟩
  f23 := ⟨ "slices.choosePivotCmpFunc[marigold/api.Vote]", by decide, Tryz.func229.trans (congrArg some (by kernel_rfl))⟩
  f24 := ⟨ "slices.reverseRangeCmpFunc[marigold/api.Vote]", by decide, Tryz.func230.trans (congrArg some (by kernel_rfl))⟩
  f25 := ⟨ "slices.partialInsertionSortCmpFunc[marigold/api.Vote]", by decide, Tryz.func231.trans (congrArg some (by kernel_rfl))⟩
  f26 := ⟨ "slices.partitionEqualCmpFunc[marigold/api.Vote]", by decide, Tryz.func232.trans (congrArg some (by kernel_rfl))⟩
  f27 := ⟨ "slices.partitionCmpFunc[marigold/api.Vote]", by decide, Tryz.func233.trans (congrArg some (by kernel_rfl))⟩
  f28 := Tryz.func234.trans (congrArg some (by kernel_rfl))
  f29 := Tryz.func235.trans (congrArg some (by kernel_rfl))
  f46 := ⟨ "slices.siftDownCmpFunc[marigold/api.Vote]", by decide, Tryz.func240.trans (congrArg some (by kernel_rfl))⟩
  f47 := Tryz.func241.trans (congrArg some (by kernel_rfl))
  f48 := Tryz.func242.trans (congrArg some (by kernel_rfl))
  f49 := ⟨ "slices.medianAdjacentCmpFunc[marigold/api.Vote]", by decide, Tryz.func243.trans (congrArg some (by kernel_rfl))⟩
  f50 := ⟨ "slices.medianCmpFunc[marigold/api.Vote]", by decide, Tryz.func244.trans (congrArg some (by kernel_rfl))⟩
  f57 := ⟨ "slices.order2CmpFunc[marigold/api.Vote]", by decide, Tryz.func249.trans (congrArg some (by kernel_rfl))⟩
  t0 := Tryz.underlying0
  a0 := Tryz.isAgg0
  z0 := Tryz.sizeOf0
  v0 := Tryz.zeroValue0
  t3 := Tryz.underlying3
  a3 := Tryz.isAgg3
  z3 := Tryz.sizeOf3
  v3 := Tryz.zeroValue3
  t4 := Tryz.underlying4
  a4 := Tryz.isAgg4
  z4 := Tryz.sizeOf4
  v4 := Tryz.zeroValue4
  t5 := Tryz.underlying5
  a5 := Tryz.isAgg5
  z5 := Tryz.sizeOf5
  v5 := Tryz.zeroValue5
  t9 := Tryz.underlying9
  a9 := Tryz.isAgg9
  z9 := Tryz.sizeOf9
  v9 := Tryz.zeroValue9
  t22 := Tryz.underlying27
  a22 := Tryz.isAgg27
  z22 := Tryz.sizeOf27
  v22 := Tryz.zeroValue27
  t25 := Tryz.underlying239
  a25 := Tryz.isAgg239
  z25 := Tryz.sizeOf239
  v25 := Tryz.zeroValue239
  t39 := Tryz.underlying160
  a39 := Tryz.isAgg160
  z39 := Tryz.sizeOf160
  v39 := Tryz.zeroValue160
  t45 := Tryz.underlying261
  a45 := Tryz.isAgg261
  z45 := Tryz.sizeOf261
  v45 := Tryz.zeroValue261
  t46 := Tryz.underlying262
  a46 := Tryz.isAgg262
  z46 := Tryz.sizeOf262
  v46 := Tryz.zeroValue262
  t50 := Tryz.underlying81
  a50 := Tryz.isAgg81
  z50 := Tryz.sizeOf81
  v50 := Tryz.zeroValue81
  t53 := Tryz.underlying166
  a53 := Tryz.isAgg166
  z53 := Tryz.sizeOf166
  v53 := Tryz.zeroValue166
  t55 := Tryz.underlying23
  a55 := Tryz.isAgg23
  z55 := Tryz.sizeOf23
  v55 := Tryz.zeroValue23
  t66 := Tryz.underlying273
  a66 := Tryz.isAgg273
  z66 := Tryz.sizeOf273
  v66 := Tryz.zeroValue273
  t70 := Tryz.underlying277
  a70 := Tryz.isAgg277
  z70 := Tryz.sizeOf277
  v70 := Tryz.zeroValue277
  t76 := Tryz.underlying282
  a76 := Tryz.isAgg282
  z76 := Tryz.sizeOf282
  v76 := Tryz.zeroValue282
  t77 := Tryz.underlying283
  a77 := Tryz.isAgg283
  z77 := Tryz.sizeOf283
  v77 := Tryz.zeroValue283
def Tryz.cmpVt_ren : Go.Shelf.Ren := ⟨fun | 5 => 198 | 7 => 220 | n => n, fun | 22 => 3 | 3 => 3 | 4 => 4 | n => n, fun | n => n⟩
theorem Tryz.cmpVt : SlLaysC2.n5 Tryz.prog Tryz.cmpVt_ren where
  mixed := by kernel_rfl
  f5 := ⟨ "cmp.Compare[int]", by decide, Tryz.func198.trans (congrArg some (by kernel_rfl))⟩
  f7 := ⟨ "cmp.isNaN[int]", by decide, Tryz.func220.trans (congrArg some (by kernel_rfl))⟩
  t3 := Tryz.underlying3
  a3 := Tryz.isAgg3
  z3 := Tryz.sizeOf3
  v3 := Tryz.zeroValue3
  t4 := Tryz.underlying4
  a4 := Tryz.isAgg4
  z4 := Tryz.sizeOf4
  v4 := Tryz.zeroValue4
  t22 := Tryz.underlying3
  a22 := Tryz.isAgg3
  z22 := Tryz.sizeOf3
  v22 := Tryz.zeroValue3
end Go.Proofs
namespace Go.Mg
open Go.Shelf Go.Sort Go.Proofs
instance : Inhabited Vt := ⟨⟨0, 0, (0, 0)⟩⟩
def encV (v : Vt) : List Value := [.int .i64 v.From, .int .i64 v.Slot, .int .u64 v.Head.1, .int .u64 v.Head.2]
def encP (v : Vt) : List PV := [.int .i64 v.From, .int .i64 v.Slot, .int .u64 v.Head.1, .int .u64 v.Head.2]
theorem flat_votes : ∀ l : List Vt, flat (l.map vtP) = l.flatMap encP
  | [] => rfl
  | v :: r => by rw [List.map_cons, flat_cons, flat_votes r, List.flatMap_cons]; rfl
theorem flatMap_at {α β : Type} {f : α → List β} {k : Nat} (hf : ∀ x, (f x).length = k) : ∀ (l : List α) (q r : Nat) (x : α), l[q]? = some x → r < k → (l.flatMap f)[q * k + r]? = (f x)[r]?
  | [], q, r, x, h, _ => by simp at h
  | y :: s, 0, r, x, h, hr => by
    simp at h; subst h
    rw [List.flatMap_cons, Nat.zero_mul, Nat.zero_add, List.getElem?_append_left (by rw [hf]; exact hr)]
  | y :: s, q + 1, r, x, h, hr => by
    rw [List.flatMap_cons, List.getElem?_append_right (by rw [hf, Nat.succ_mul]; omega), hf, show (q + 1) * k + r - k = q * k + r by rw [Nat.succ_mul]; omega]
    exact flatMap_at hf s q r x (by simpa using h) hr
theorem vec_votes {μ : List Blk} {I : Nat → Prop} {w : World} {H : List LObj} {id : Nat} {l : List Vt} {B : Blk} (hs : St μ I w H) (hne : l ≠ []) (hH : H[id]? = some (.vec 4 (l.map vtP))) (hid : μ[id]? = some B) :
    ∃ b vs e, B = ⟨some b, l.length⟩ ∧ w.heap[b]? = some (.cells vs e (0, 0)) ∧ 4 * l.length ≤ vs.size ∧ (∀ q v, l[q]? = some v → (InKind .i64 v.From ∧ InKind .i64 v.Slot ∧ InKind .u64 v.Head.1 ∧ InKind .u64 v.Head.2) ∧ ∀ r, r < 4 → vs[4 * q + r]? = (encV v)[r]?) := by
  have hob := hs.objs id _ _ hH hid
  generalize hx : l.map vtP = xs at hob
  cases hob with
  | vecE => exact absurd (List.map_eq_nil_iff.1 hx) hne
  | @vec _ _ b vs e hb hl hne' hm h =>
    subst hx
    rw [List.length_map] at hl
    refine ⟨b, vs, e, by rw [List.length_map], hb, hl, fun q v hq => ?_⟩
    have hql := (List.getElem?_eq_some_iff.1 hq).1
    have key : ∀ r p, r < 4 → (encP v)[r]? = some p → ∃ u, vs[4 * q + r]? = some u ∧ Rep I w p u := fun r p hr hp => by
      have hi := flatMap_at (f := encP) (k := 4) (fun _ => rfl) l q r v hq hr
      rw [← flat_votes, Nat.mul_comm] at hi
      have hv : vs[4 * q + r]? = some (vs[4 * q + r]'(by omega)) := Array.getElem?_eq_getElem (by omega)
      exact ⟨_, hv, h _ p _ (hi.trans hp) hv⟩
    obtain ⟨u0, h0, r0⟩ := key 0 (.int .i64 v.From) (by omega) rfl
    obtain ⟨u1, h1, r1⟩ := key 1 (.int .i64 v.Slot) (by omega) rfl
    obtain ⟨u2, h2, r2⟩ := key 2 (.int .u64 v.Head.1) (by omega) rfl
    obtain ⟨u3, h3, r3⟩ := key 3 (.int .u64 v.Head.2) (by omega) rfl
    cases r0; cases r1; cases r2; cases r3
    refine ⟨⟨by assumption, by assumption, by assumption, by assumption⟩, fun r hr => ?_⟩
    match r, hr with
    | 0, _ => rw [h0]; rfl
    | 1, _ => rw [h1]; rfl
    | 2, _ => rw [h2]; rfl
    | 3, _ => rw [h3]; rfl
theorem idx4 {l : List Vt} {j : Nat} (hj : j < 4 * l.length) : ∃ v, l[j / 4]? = some v ∧ j % 4 < 4 ∧ j = 4 * (j / 4) + j % 4 := by
  have h : j / 4 < l.length := by omega
  exact ⟨l[j / 4], List.getElem?_eq_getElem h, by omega, by omega⟩
theorem flatK_at {l : List Vt} {j : Nat} (hj : j < 4 * l.length) {v : Vt} (hv : l[j / 4]? = some v) : (flatK encV 4 l.toArray)[j]! = (encV v)[j % 4]! := by
  rw [get_flatK _ _ _ _ (by simp; omega)]
  have h : (l.toArray)[j / 4]! = v := by
    rw [getElem!_def]
    simp [hv]
  rw [h]
theorem holdsK_votes {w : World} {l : List Vt} {b : Nat} {vs : Array Value} {e : TypeId} (hb : w.heap[b]? = some (.cells vs e (0, 0))) (hc : ∀ q v, l[q]? = some v → ∀ r, r < 4 → vs[4 * q + r]? = (encV v)[r]?) : HoldsK encV 4 w b 0 l.toArray := by
  intro j hj
  rw [size_flatK] at hj
  have hj' : j < 4 * l.length := by simp at hj; omega
  obtain ⟨v, hv, hr, he⟩ := idx4 hj'
  have h1 := hc _ v hv _ hr
  rw [← he] at h1
  have h2 : (encV v)[j % 4]? = some ((encV v)[j % 4]!) := by
    rw [getElem!_def]
    have : j % 4 < (encV v).length := hr
    rw [List.getElem?_eq_getElem this]
  rw [h2] at h1
  constructor
  · rw [flatK_at hj' hv, Nat.zero_add]
    simp [World.cell?, hb, h1]
  · simp [World.frozen?, hb]
theorem putCells_at {F vs : Array Value} {i : Nat} (hF : F.size ≤ vs.size) (hi : i < F.size) : (putCells (fun x => x) 0 F vs)[i]? = some (F[i]!) := by
  unfold putCells
  rw [Array.getElem?_mapIdx, Array.getElem?_eq_getElem (by omega)]
  simp [hi]
theorem encP_len : ∀ d : List Vt, (d.flatMap encP).length = 4 * d.length
  | [] => rfl
  | x :: r => by rw [List.flatMap_cons, List.length_append, encP_len r, List.length_cons]; simp [encP]; omega
theorem sorted_st {μ : List Blk} {I : Nat → Prop} {w : World} {H : List LObj} {id b n : Nat} {l d : List Vt} {vs : Array Value} {e : TypeId} {os : Array Obj} (hs : St μ I w H) (hid : μ[id]? = some ⟨some b, l.length⟩) (hb : w.heap[b]? = some (.cells vs e (0, 0))) (hsz : 4 * l.length ≤ vs.size)
    (hd : d.length = l.length) (hne : d ≠ []) (hk : ∀ v ∈ d, InKind .i64 v.From ∧ InKind .i64 v.Slot ∧ InKind .u64 v.Head.1 ∧ InKind .u64 v.Head.2) :
    St μ I (sortWorldK encV 4 w b 0 n d.toArray os) (H.set id (.vec 4 (d.map vtP))) ∧ Ext μ.length μ I w μ I (sortWorldK encV 4 w b 0 n d.toArray os) := by
  have hbl : b < w.heap.size := (Array.getElem?_eq_some_iff.1 hb).1
  have hFs : (flatK encV 4 d.toArray).size = 4 * d.length := by rw [size_flatK]; simp; omega
  have hsize : (sortWorldK encV 4 w b 0 n d.toArray os).heap.size = w.heap.size + os.size := by
    simp [sortWorldK, grow, putRowK, putRow, mapBlock, Go.Sort.ahead]
  have hoth : ∀ c, c < w.heap.size → c ≠ b → (sortWorldK encV 4 w b 0 n d.toArray os).heap[c]? = w.heap[c]? := fun c hc hcb => by
    simp only [sortWorldK, grow, putRowK, putRow, mapBlock, Go.Sort.ahead]
    rw [Array.getElem?_append_left (by simpa using hc), Array.getElem?_modify]
    rw [if_neg (fun e => hcb e.symm)]
  have hself : (sortWorldK encV 4 w b 0 n d.toArray os).heap[b]? = some (.cells (putCells (fun x => x) 0 (flatK encV 4 d.toArray) vs) e (0, 0)) := by
    simp only [sortWorldK, grow, putRowK, putRow, mapBlock, Go.Sort.ahead]
    rw [Array.getElem?_append_left (by simpa using hbl), Array.getElem?_modify]
    rw [if_pos rfl, hb]
    rfl
  have hF : (flatK encV 4 d.toArray).size ≤ vs.size := by omega
  refine hs.writeG hid hoth (by omega) rfl rfl rfl (fun c e' f hc => ?_) fun hE => ?_
  · rw [hb] at hc; cases hc
    exact ⟨_, hself, by simp [putCells]⟩
  · rw [← hd]
    have hlen : d.length = (d.map vtP).length := by rw [List.length_map]
    rw [hlen]
    refine .vec hself (by rw [List.length_map]; simp [putCells]; omega) (fun h => hne (List.map_eq_nil_iff.1 h)) (fun x hx => ?_) fun i c u hc hu => ?_
    · obtain ⟨v, -, rfl⟩ := List.mem_map.1 hx
      exact ⟨rfl, fun c hc => by simp [vtP, PV.cells] at hc; rcases hc with rfl | rfl | rfl | rfl <;> trivial⟩
    · rw [flat_votes] at hc
      have hi : i < 4 * d.length := by
        have h1 := (List.getElem?_eq_some_iff.1 hc).1
        have h2 := encP_len d
        omega
      obtain ⟨v, hv, hr, he⟩ := idx4 hi
      have h3 := flatMap_at (f := encP) (k := 4) (fun _ => rfl) d _ _ v hv hr
      rw [Nat.mul_comm, ← he, hc] at h3
      rw [putCells_at hF (by omega), flatK_at hi hv] at hu
      obtain ⟨k1, k2, k3, k4⟩ := hk v (List.mem_of_getElem? hv)
      cases hu
      generalize i % 4 = r at hr h3 ⊢
      match r, hr with
      | 0, _ => cases h3; exact .int k1
      | 1, _ => cases h3; exact .int k2
      | 2, _ => cases h3; exact .int k3
      | 3, _ => cases h3; exact .int k4
open Go.Shelf Go.Sort Go.Proofs
theorem perm_list {l : List Vt} {d : Array Vt} (h : PermIn 0 l.toArray.size l.toArray d) : d.toList.Perm l := by
  have h1 := h.2.2
  have e1 : l.toArray.extract 0 l.toArray.size = l.toArray := Array.extract_size
  have e2 : d.extract 0 l.toArray.size = d := by rw [← h.1]; exact Array.extract_size
  rw [e1, e2] at h1
  simpa using h1
theorem rise_list {d : Array Vt} {n : Nat} {lt : Vt → Vt → Bool} (hlt : ∀ x y, lt x y = decide (x.From < y.From)) (hn : d.size = n) (h : SortedIn lt 0 n d) : RiseV d.toList := by
  unfold RiseV
  rw [List.pairwise_iff_getElem]
  intro i j hi hj hij
  have := h i j (Nat.zero_le _) hij (by simpa [hn] using hj)
  rw [hlt] at this
  have h1 : d[j]! = d.toList[j] := by rw [getElem!_pos d j (by simpa using hj)]; simp
  have h2 : d[i]! = d.toList[i] := by rw [getElem!_pos d i (by simpa using hi)]; simp
  rw [h1, h2] at this
  have := of_decide_eq_false this
  omega
theorem LC.sortVotes {P : Program} {F g : FuncId} {H : List LObj} {id : Nat} {l : List Vt} {lt : Vt → Vt → Bool} (hlt : ∀ x y, lt x y = decide (x.From < y.From))
    (hN : ∀ (p : Option Addr) (cap : Nat) (fv : Value) (w : World), Calls P F #[.slice p 0 cap, fv] w fun e w' => e = .returned (.tuple #[]) ∧ w' = w)
    (hS : ∀ (blk off cap : Nat) (d : Array Vt) (w : World), HoldsK encV 4 w blk off d → blk < w.heap.size → d.size < 4611686018427387904 → Calls P F #[.slice (some ⟨blk, off, none⟩) d.size cap, .func (.func g) #[] #[]] w fun e w' =>
      e = .returned (.tuple #[]) ∧ ∃ d' n os, PermIn 0 d.size d d' ∧ SortedIn lt 0 d.size d' ∧ w' = sortWorldK encV 4 w blk off n d' os)
    (hH : nth H id = some (.vec 4 (l.map vtP))) (hd : ∀ x ∈ l, ∀ y ∈ l, x.From = y.From → x = y) (hlen : l.length ≤ 1000000) :
    LC P F [.vec 4 id (l.map vtP).length 0 (l.map vtP).length, .fn g [] []] H (Is (.tup []) (H.set id (.vec 4 ((sortV l).map vtP)))) := by
  intro args w μ I hs ha
  rw [nth_eq] at hH
  obtain ⟨al⟩ := args
  match al, ha with
  | [v1, v2], ha =>
    obtain ⟨h1, h2, -⟩ := ha
    have hv2 : v2 = .func (.func g) #[] #[] := by
      cases h2 with
      | @fn _ _ _ fs cs hl hl' _ _ =>
        rw [Array.eq_empty_of_size_eq_zero hl, Array.eq_empty_of_size_eq_zero hl']
    subst hv2
    cases h1 with
    | @vec _ _ _ _ _ B _ hid h1 hn hf =>
    by_cases hne : l = []
    · subst hne
      have hob := hs.objs id _ _ hH hid
      have hB : B = ⟨none, 0⟩ := by
        cases hob with
        | vecE => rfl
        | vec _ _ hne' _ _ => exact absurd rfl hne'
      subst hB
      rcases hf rfl with ⟨-, ⟨a, rfl⟩, -⟩ | ⟨b, cap, hb, -⟩
      · refine (hN a 0 _ w).mono fun e w' he => ?_
        obtain ⟨rfl, rfl⟩ := he
        refine ⟨.tup [], _, _, μ, I, rfl, ⟨rfl, rfl⟩, ?_, .tup rfl (fun i c v hc => by simp at hc), .refl _ _ _ _ (Nat.le_refl _)⟩
        have hil := (List.getElem?_eq_some_iff.1 hH).1
        have : H.set id (.vec 4 ((sortV []).map vtP)) = H := by
          apply List.ext_getElem?
          intro i
          rw [List.getElem?_set]
          split
          · rename_i e; subst e; first | exact hH.symm | (rw [if_pos hil]; exact hH.symm)
          · rfl
        rw [this]; exact hs
      · cases hb
    · obtain ⟨b, vs, e, rfl, hb, hsz, hcells⟩ := vec_votes hs hne hH hid
      have hll : (l.map vtP).length = l.length := List.length_map _
      have hl0 : l.length ≠ 0 := fun h => hne (List.length_eq_zero_iff.1 h)
      rcases hf hll with ⟨h0, -⟩ | ⟨b', cap, hb', rfl, hc1, hc2, -⟩
      · omega
      · cases hb'
        have hbl : b < w.heap.size := (Array.getElem?_eq_some_iff.1 hb).1
        have hmax : l.length < 4611686018427387904 := by omega
        have hcall := hS b 0 cap l.toArray w (holdsK_votes hb fun q v hq => (hcells q v hq).2) hbl (by simpa using hmax)
        have es : l.toArray.size = (l.map vtP).length := by simp
        rw [es] at hcall
        refine hcall.mono fun ex w' he => ?_
        obtain ⟨rfl, d', n, os, hp, hso, rfl⟩ := he
        rw [← es] at hp hso
        have hperm := perm_list hp
        have hds : d'.toList = sortV l := (sortV_of hperm.symm (rise_list hlt hp.1 hso) hd).symm
        have hd' : d' = (sortV l).toArray := by rw [← hds]
        subst hd'
        have hsl : (sortV l).length = l.length := (sortV_perm l).length_eq
        obtain ⟨s1, s2⟩ := sorted_st (n := n) (os := os) (d := sortV l) hs hid hb hsz hsl (fun h => hl0 (by rw [← hsl, h]; rfl)) fun v hv => by
          obtain ⟨q, hq⟩ := List.getElem?_of_mem ((sortV_perm l).mem_iff.1 hv)
          exact (hcells q v hq).1
        exact ⟨.tup [], _, _, μ, I, rfl, ⟨rfl, rfl⟩, s1, .tup rfl (fun i c v hc => by simp at hc), s2⟩
end Go.Mg
namespace Go.Proofs
open Go.Shelf Go.RowKit Go.Lib Go.Sort Go.Mg
set_option maxHeartbeats 1000000 in
theorem Tryz.closV (x y : Vt) (W : World) : Calls Tryz.prog 197 #[.agg #[.int .i64 x.From, .int .i64 x.Slot, .int .u64 x.Head.1, .int .u64 x.Head.2], .agg #[.int .i64 y.From, .int .i64 y.Slot, .int .u64 y.Head.1, .int .u64 y.Head.2]] W fun e w' => e = .returned (.int .i64 (Lib.compareInt x.From y.From)) ∧ ∃ q os', w' = grow (W.drewN q) os' := by
  have hcon := fun W' => AnyG.cmp_Compare_int Tryz.cmpVt x.From y.From W'
  change ∀ W', Calls Tryz.prog 198 _ _ _ at hcon
  generalize Lib.compareInt x.From y.From = r at hcon ⊢
  go_enter Tryz.func197, Tryz.ntmps197
  go_wp2_with (go_at_call 198; refine (hcon _).mono ?_; rintro e w' ⟨rfl, rfl⟩)
  go_ret
  exact ⟨rfl, 0, _, by rw [alloc_eq_grow, alloc_eq_grow, grow_grow]; rfl⟩
theorem Tryz.ltV (x y : Vt) : ltOf (fun x y : Vt => Lib.compareInt x.From y.From) x y = decide (x.From < y.From) := by
  unfold ltOf Lib.compareInt
  by_cases h1 : x.From < y.From
  · simp [h1]
  · by_cases h2 : y.From < x.From <;> simp [h1, h2]
theorem Tryz.swoV : SWO (ltOf fun x y : Vt => Lib.compareInt x.From y.From) where
  irrefl x := by rw [Tryz.ltV]; simp
  trans x y z h1 h2 := by rw [Tryz.ltV] at *; simp at *; omega
  ntrans x y z h1 h2 := by rw [Tryz.ltV] at *; simp at *; omega
theorem Tryz.sortV_call {H H' : List LObj} {id : Nat} {l : List Vt} (hH : nth H id = some (.vec 4 (l.map vtP))) (hk : sortOk l = true) (hH' : setC H id (.vec 4 ((sortV l).map vtP)) = some H') :
    LC Tryz.prog 196 [.vec 4 id (l.map vtP).length 0 (l.map vtP).length, .fn 197 [] []] H (Is (.tup []) H') := by
  obtain ⟨e3, -⟩ := setC_eq hH'
  subst e3
  have hk := of_decide_eq_true hk
  refine LC.sortVotes Tryz.ltV (fun p cap fv w => AnyF.slices_SortFunc_none Tryz.sortVt p cap fv w) (fun blk off cap d w hH hb hs => ?_) hH hk.2 hk.1
  exact AnyQ.slices_SortFunc Tryz.sortVt 4 Tryz.isAgg57 Tryz.sizeOf57 encV (fun _ => rfl) (fun x v hv => by simp [encV] at hv; rcases hv with rfl | rfl | rfl | rfl <;> rfl) (fun x y => Lib.compareInt x.From y.From) Tryz.swoV 197 #[] blk off cap d w (enters_of Tryz.func197 (by kernel_rfl) rfl) (fun _ _ _ _ x y => Tryz.closV x y _) hH hb hs
end Go.Proofs
namespace Go.Mg
open Go.Proofs
def FSorted (l : List Vt) : Option (List Vt) :=
  bif sortOk l then
    some (sortV l)
  else none
set_option maxRecDepth 100000 in
theorem cFSorted {l : List Vt} {r_ : List Vt} (hr : FSorted l = some r_) : LC Tryz.prog 165 [.vec 4 0 (l.map vtP).length 0 (l.map vtP).length] [.vec 4 (l.map vtP)] (Is (.vec 4 0 (r_.map vtP).length 0 (r_.map vtP).length) [.vec 4 (r_.map vtP)]) := by
  refine LC.start Tryz.func165 rfl rfl rfl ?_
  unfold FSorted at hr
  refine LW.seq (LW.region (LOps.st rfl rfl rfl (LOp.assign rfl rfl) (LOps.nil (thn_n (LW.seq (LW.region (LOps.st rfl rfl rfl (LOp.move rfl rfl) ?_)))))))
  obtain ⟨q1, hr⟩ := grd_get hr
  refine LOps.st rfl rfl rfl (LOp.call rfl rfl rfl (by kernel_rfl) (Tryz.sortV_call rfl q1 rfl)) (LOps.nil (thn_n (LW.seq (LW.region (LOps.st rfl rfl rfl (LOp.move rfl rfl) (LOps.st rfl rfl rfl (LOp.assign rfl rfl) (LOps.nil (thn_n (LW.ret ?_)))))))))
  obtain rfl := Option.some.inj hr
  refine fin_ret (.one (.tmp rfl)) ?_
  exact ⟨by rw [List.length_map, List.length_map, (sortV_perm l).length_eq], rfl⟩
open Go.Proofs
structure FOf_L1 where
  out : List Vt
def FOf_s1 (slot : Int) (b : List (Du × ID) × List (Du × Bool)) (j_ : Nat) (d_ : FOf_L1) : Option FOf_L1 :=
  (b.1[j_]?).bind fun y1 =>
  (
    bif ((y1.1.frm == y1.1.frm) && ((y1.1.slot == slot) && true)) then
      some (!((findE b.2 y1.1).getD false))
    else
      some false
  ).bind fun v1 =>
  bif v1 then
    bif room d_.out.length [Vt.mk y1.1.frm slot y1.2].length 32 then
      some (FOf_L1.mk (d_.out ++ [Vt.mk y1.1.frm slot y1.2]))
    else none
  else
    some (FOf_L1.mk d_.out)
def FOf (slot : Int) (b : List (Du × ID) × List (Du × Bool)) (ord_ : List Nat) : Option (List Vt) :=
  (foldJ (FOf_s1 slot b) ord_ (FOf_L1.mk ([] : List Vt))).bind fun d_ =>
  (FSorted d_.out).bind fun v2 =>
  some v2
set_option maxRecDepth 100000 in
theorem cFOf {l : List Vt} {slot : Int} {b : List (Du × ID) × List (Du × Bool)} {r_ : List Vt} (hb : FBook l = some b) (hr : ∀ ord_ : List Nat, ord_.Perm (List.range b.1.length) → FOf slot b ord_ = some r_) : LC Tryz.prog 135 [.p (.slice 4 (l.map vtP)), .p (.int .i64 slot)] [] (Is (.vec 4 0 (r_.map vtP).length 0 (r_.map vtP).length) [.vec 4 (r_.map vtP)]) := by
  refine LC.start Tryz.func135 rfl rfl rfl ?_
  unfold FOf at hr
  refine LW.seq (LW.region (LOps.st rfl rfl rfl (LOp.assign rfl rfl) (LOps.nil (thn_n (LW.seq (LW.region (LOps.st rfl rfl rfl (LOp.assign rfl rfl) (LOps.nil (thn_n (LW.seq (LW.region ?_)))))))))))
  refine LOps.st rfl rfl rfl (LOp.move rfl rfl) (LOps.st rfl rfl rfl (LOp.call rfl rfl rfl (by kernel_rfl) (cFBook hb)) (LOps.st rfl rfl rfl (LOp.alloc rfl zt1167 rfl rfl) (LOps.st rfl rfl rfl (LOp.store rfl rfl rfl rfl vt1167 rfl rfl rfl rfl) (LOps.nil (thn_n (LW.seq (LW.seq (LW.region (LOps.st rfl rfl rfl (LOp.fieldAddr rfl rfl ft1167_0) (LOps.st rfl rfl rfl (LOp.load rfl rfl rfl vt1164 rfl rfl) ?_))))))))))
  refine LOps.st rfl rfl rfl (LOp.rangeMap (es := (entsOf duP (fun v => .p (idP v)) b.1)) rfl rfl rfl (lenC_ents _) (by kernel_rfl) rfl rfl) ?_
  refine LOps.nil (thn_n (LW.ent (Ent.lazy (t := 5) (m := 4) rfl rfl rfl) ?_))
  refine LW.mapTail (D := FOf_L1) (G := fun d_ s_ => Seen (FOf_s1 slot b) b.1.length (FOf_L1.mk ([] : List Vt)) s_ d_ ∧ s_.Perm (List.range b.1.length)) (fun d_ s_ => [(4, .zs), (5, .vec 4 6 (d_.out.map vtP).length 0 (d_.out.map vtP).length)]) (fun d_ s_ => [.box [.map 1, .map 2], .map (entsOf duP (fun v => .p (idP v)) b.1), .map (entsOf duP (fun v => .p (.bool v)) b.2), .box [.map 1, .map 2], .box [.map 1, .map 2], .iter (.map 1) b.1.length s_, .vec 4 (d_.out.map vtP)]) ?_ (fun d_ s_ hG env_m H_m hw_m => ?_)
  · refine LW.block ?_
    have hall : ∀ ord : List Nat, ord.Perm (List.range b.1.length) → ∃ z, foldJ (FOf_s1 slot b) ord (FOf_L1.mk ([] : List Vt)) = some z := fun ord ho => (bind_get (hr ord ho)).imp fun z h => h.1
    refine LW.mapLoop (step := (FOf_s1 slot b)) (n := b.1.length) (d0 := FOf_L1.mk ([] : List Vt)) (fun d_ s_ => [(1, .p (.int .i64 slot)), (4, .zs), (5, .vec 4 6 (d_.out.map vtP).length 0 (d_.out.map vtP).length), (6, .ptr 4 0), (13, .ptr 5 0)]) (fun d_ s_ => [.box [.map 1, .map 2], .map (entsOf duP (fun v => .p (idP v)) b.1), .map (entsOf duP (fun v => .p (.bool v)) b.2), .box [.map 1, .map 2], .box [.map 1, .map 2], .iter (.map 1) b.1.length s_, .vec 4 (d_.out.map vtP)]) hall (Weak.of 7 ⟨rfl, rfl, rfl, rfl, rfl, trivial⟩ rfl rfl rfl (lowObjs_cons rfl (lowObjs_cons (entsLow (fun _ => rfl) _) (lowObjs_cons (entsLow (fun _ => rfl) _) (lowObjs_cons rfl (lowObjs_cons rfl (lowObjs_cons rfl (lowObjs_cons rfl rfl)))))))) (fun d_ s_ hS => ?_)
    refine LW.seq (LW.region ?_)
    refine LOps.cons rfl rfl rfl (LOp.nextMap (es := (entsOf duP (fun v => .p (idP v)) b.1)) rfl rfl rfl rfl (lenC_ents _)) ?_
    rintro x_ H_ (⟨ha_, rfl, rfl⟩ | ⟨j_, hj_, hs_, rfl, rfl⟩)
    ·
      refine LOps.st rfl rfl rfl (LOp.extract rfl rfl rfl) (LOps.nil (thn_n (LW.seq (LW.condF rfl (LW.exit (thn_e (thn_e (inBlk_self (thn_n ?_)))))))))
      exact ⟨d_, s_, hS.all ha_, Weak.of 7 ⟨rfl, rfl, trivial⟩ rfl rfl rfl (lowObjs_cons rfl (lowObjs_cons (entsLow (fun _ => rfl) _) (lowObjs_cons (entsLow (fun _ => rfl) _) (lowObjs_cons rfl (lowObjs_cons rfl (lowObjs_cons rfl (lowObjs_cons rfl rfl)))))))⟩
    ·
      obtain ⟨e_, hr0, -⟩ := hS.next hall hj_ hs_
      have hr := hr0
      unfold FOf_s1 at hr
      refine LOps.st rfl rfl rfl (LOp.extract rfl rfl rfl) (LOps.nil (thn_n (LW.seq (LW.condT rfl (LW.skip (thn_n (LW.block (LW.seq (LW.region ?_)))))))))
      obtain ⟨y1, h_y1, hr⟩ := bind_get hr
      refine LOps.st rfl rfl rfl (LOp.entryMap (es := (entsOf duP (fun v => .p (idP v)) b.1)) rfl rfl rfl rfl (lenC_ents _) (ents_get h_y1)) ?_
      refine LOps.st rfl rfl rfl (LOp.extract rfl rfl rfl) (LOps.st rfl rfl rfl (LOp.extract rfl rfl rfl) (LOps.st rfl rfl rfl (LOp.alloc rfl zt1170 rfl rfl) (LOps.st rfl rfl rfl (LOp.alloc rfl zt24 rfl rfl) (LOps.st rfl rfl rfl (LOp.store rfl rfl rfl rfl vt1170 rfl rfl rfl rfl) (LOps.st rfl rfl rfl (LOp.store rfl rfl rfl rfl vt24 rfl rfl rfl rfl) (LOps.nil (thn_n ?_)))))))
      obtain ⟨v1, hb_v1, ho_v1⟩ := bind_get hr
      clear hr
      refine LW.cut (E := [(1, .p (.int .i64 slot)), (4, .zs), (5, .vec 4 6 (d_.out.map vtP).length 0 (d_.out.map vtP).length), (6, .ptr 4 0), (7, .ptr 7 0), (8, .ptr 8 0), (13, .ptr 5 0), (31, .p (.bool v1))]) (O := [.box [.map 1, .map 2], .map (entsOf duP (fun v => .p (idP v)) b.1), .map (entsOf duP (fun v => .p (.bool v)) b.2), .box [.map 1, .map 2], .box [.map 1, .map 2], .iter (.map 1) b.1.length (s_ ++ [j_]), .vec 4 (d_.out.map vtP), .box [.p (.int .i64 y1.1.frm), .p (.int .i64 y1.1.slot)], .box [.p (.int .u64 y1.2.1), .p (.int .u64 y1.2.2)]]) ?_ ?_
      · have hr := hb_v1
        refine LW.region (LOps.st rfl rfl rfl (LOp.load rfl rfl rfl vt1170 rfl rfl) (LOps.st rfl rfl rfl (LOp.fieldAddr rfl rfl ft1170_0) (LOps.st rfl rfl rfl (LOp.load rfl rfl rfl vt3 rfl rfl) (LOps.st rfl rfl rfl (LOp.move rfl rfl) (LOps.st rfl rfl rfl (LOp.build rfl bt1170 rfl rfl rfl) (LOps.st rfl rfl rfl (LOp.eqlAgg rfl rfl rfl rfl rfl eqt1170) (LOps.st rfl rfl rfl (LOp.move rfl rfl) ?_)))))))
        refine LOps.cases 25 rfl (fun (g1 : ((y1.1.frm == y1.1.frm) && ((y1.1.slot == slot) && true)) = true) => ?_) (fun (g1 : ((y1.1.frm == y1.1.frm) && ((y1.1.slot == slot) && true)) = false) => ?_)
        ·
          have hr := ite_t g1 hr
          refine LOps.gd rfl rfl rfl (gd g1 rfl) rfl (LOp.fieldAddr rfl rfl ft1167_1) (LOps.gd rfl rfl rfl (gd g1 rfl) rfl (LOp.load rfl rfl rfl vt1165 rfl rfl) (LOps.gd rfl rfl rfl (gd g1 rfl) rfl (LOp.load rfl rfl rfl vt1170 rfl rfl) ?_))
          refine LOps.gd rfl rfl rfl (gd g1 rfl) rfl (LOp.getX (f := duP) (g := (fun v => .p (.bool v))) y1.1 false duKey rfl rfl rfl rfl mt1165 zl4 rfl rfl) ?_
          refine LOps.gd rfl rfl rfl (gd g1 rfl) rfl (LOp.not rfl rfl) (LOps.st rfl rfl rfl (LOp.pickT rfl (gdl g1 rfl) rfl) (LOps.nil (thn_n ?_)))
          obtain rfl := Option.some.inj hr
          exact Weak.of 9 ⟨rfl, rfl, rfl, rfl, rfl, rfl, rfl, rfl, trivial⟩ rfl rfl rfl (lowObjs_cons rfl (lowObjs_cons (entsLow (fun _ => rfl) _) (lowObjs_cons (entsLow (fun _ => rfl) _) (lowObjs_cons rfl (lowObjs_cons rfl (lowObjs_cons rfl (lowObjs_cons rfl (lowObjs_cons rfl (lowObjs_cons rfl rfl)))))))))
        ·
          have hr := ite_f g1 hr
          refine LOps.sk rfl rfl rfl (gd g1 rfl) rfl rfl (LOps.sk rfl rfl rfl (gd g1 rfl) rfl rfl (LOps.sk rfl rfl rfl (gd g1 rfl) rfl rfl (LOps.sk rfl rfl rfl (gd g1 rfl) rfl rfl (LOps.sk rfl rfl rfl (gd g1 rfl) rfl rfl (LOps.st rfl rfl rfl (LOp.pickF rfl (gdl g1 rfl) rfl) (LOps.nil (thn_n ?_)))))))
          obtain rfl := Option.some.inj hr
          exact Weak.of 9 ⟨rfl, rfl, rfl, rfl, rfl, rfl, rfl, rfl, trivial⟩ rfl rfl rfl (lowObjs_cons rfl (lowObjs_cons (entsLow (fun _ => rfl) _) (lowObjs_cons (entsLow (fun _ => rfl) _) (lowObjs_cons rfl (lowObjs_cons rfl (lowObjs_cons rfl (lowObjs_cons rfl (lowObjs_cons rfl (lowObjs_cons rfl rfl)))))))))
      · have hr := ho_v1
        clear hb_v1
        refine LW.cond rfl (fun (g2 : v1 = true) => ?_) (fun (g2 : v1 = false) => ?_)
        ·
          have hr := ite_t g2 hr
          refine LW.region (LOps.st rfl rfl rfl (LOp.move rfl rfl) (LOps.st rfl rfl rfl (LOp.fieldAddr rfl rfl ft1170_0) (LOps.st rfl rfl rfl (LOp.load rfl rfl rfl vt3 rfl rfl) (LOps.st rfl rfl rfl (LOp.move rfl rfl) (LOps.st rfl rfl rfl (LOp.load rfl rfl rfl vt24 rfl rfl) (LOps.st rfl rfl rfl (LOp.build rfl bt82 rfl rfl rfl) (LOps.st rfl rfl rfl (LOp.buildSlice rfl st68 rfl rfl rfl rfl rfl) ?_)))))))
          obtain ⟨q1, hr⟩ := grd_get hr
          refine LOps.st rfl rfl rfl (LOp.appendX vtP d_.out [Vt.mk y1.1.frm slot y1.2] rfl rfl rfl rfl Src.p rfl st68 q1 rfl) (LOps.st rfl rfl rfl (LOp.assign rfl rfl) (LOps.nil (inBlk_n (thn_n ?_))))
          obtain rfl := Option.some.inj hr
          exact ⟨j_, _, hj_, hs_, hr0, Weak.of 7 ⟨rfl, rfl, rfl, rfl, rfl, trivial⟩ rfl rfl rfl (lowObjs_cons rfl (lowObjs_cons (entsLow (fun _ => rfl) _) (lowObjs_cons (entsLow (fun _ => rfl) _) (lowObjs_cons rfl (lowObjs_cons rfl (lowObjs_cons rfl (lowObjs_cons rfl rfl)))))))⟩
        ·
          have hr := ite_f g2 hr
          refine LW.skip (inBlk_n (thn_n ?_))
          obtain rfl := Option.some.inj hr
          exact ⟨j_, _, hj_, hs_, hr0, Weak.of 7 ⟨rfl, rfl, rfl, rfl, rfl, trivial⟩ rfl rfl rfl (lowObjs_cons rfl (lowObjs_cons (entsLow (fun _ => rfl) _) (lowObjs_cons (entsLow (fun _ => rfl) _) (lowObjs_cons rfl (lowObjs_cons rfl (lowObjs_cons rfl (lowObjs_cons rfl rfl)))))))⟩
  · have hr := bindJ (hr s_ hG.2) hG.1.came
    refine thn_n (LW.weak hw_m (LW.seq (LW.ent (Ent.last (t := 5) (j := 0) (Hj := []) rfl rfl rfl rfl rfl rfl rfl) (LW.region (LOps.st rfl rfl rfl (LOp.move rfl rfl) ?_)))))
    obtain ⟨v2, h_v2, hr⟩ := bind_get hr
    refine LOps.st rfl rfl rfl (LOp.call rfl rfl rfl (by kernel_rfl) (cFSorted h_v2)) (LOps.st rfl rfl rfl (LOp.assign rfl rfl) (LOps.nil (thn_n (LW.ret ?_))))
    obtain rfl := Option.some.inj hr
    refine fin_ret (.one (.tmp rfl)) ?_
    exact ⟨rfl, rfl⟩
open Go.Proofs
theorem keys_set {α β : Type} [DecidableEq α] (k : α) (v : β) : ∀ m : List (α × β), (setE m k v).map Prod.fst = if k ∈ m.map Prod.fst then m.map Prod.fst else m.map Prod.fst ++ [k]
  | [] => by simp [setE]
  | (x, y) :: r => by
    have ih := keys_set k v r
    by_cases h : x = k
    · subst h; simp [setE]
    · have h' : ¬ k = x := fun e => h e.symm
      simp only [setE, if_neg h, List.map_cons, ih, List.mem_cons, h', false_or]
      split <;> rfl
theorem keys_nodup {α β : Type} [DecidableEq α] {m : List (α × β)} (k : α) (v : β) (h : (m.map Prod.fst).Nodup) : ((setE m k v).map Prod.fst).Nodup := by
  rw [keys_set]
  split
  · exact h
  · rename_i hk
    exact List.nodup_append.2 ⟨h, by simp, fun a ha b hb => by rw [List.mem_singleton] at hb; subst hb; exact fun e => hk (e ▸ ha)⟩
theorem keys_len {α β : Type} [DecidableEq α] (m : List (α × β)) (k : α) (v : β) : (setE m k v).length ≤ m.length + 1 := by
  have h := congrArg List.length (keys_set k v m)
  split at h <;> simp at h <;> omega
def duV (v : Vt) : Du := ⟨v.From, v.Slot⟩
def dblS (h : List (Du × ID)) (v : Vt) : Bool := match findE h (duV v) with
  | some w => decide (w ≠ v.Head)
  | none => false
def bookS (b : List (Du × ID) × List (Du × Bool)) (v : Vt) : List (Du × ID) × List (Du × Bool) := (setE b.1 (duV v) v.Head, if dblS b.1 v = true then setE b.2 (duV v) true else b.2)
def bookP (l : List Vt) : List (Du × ID) × List (Du × Bool) := l.foldl bookS ([], [])
theorem bookP_snoc (l : List Vt) (v : Vt) : bookP (l ++ [v]) = bookS (bookP l) v := by unfold bookP; rw [List.foldl_append]; rfl
theorem FBook_eq {l : List Vt} (hl : l.length ≤ 100000) : FBook l = some (bookP l) := by
  have e := count_loop (step := FBook_s1 l) (n := l.length) (fun k => FBook_L1.mk (k : Int) (bookP (l.take k)).1 (bookP (l.take k)).2) (FBook_L1.mk (l.length : Int) (bookP l).1 (bookP l).2) (fun k hk => by
    obtain ⟨y, hy, -⟩ := get_of hk
    have et : l.take (k + 1) = l.take k ++ [y] := by rw [List.take_add_one, hy]; rfl
    unfold FBook_s1
    simp only
    rw [decide_eq_true (show (k : Int) < (l.length : Int) by omega), ct, ix_nat hy, ob, et, bookP_snoc, wrap_succ (n := k) (by omega)]
    generalize bookP (l.take k) = b
    unfold bookS dblS duV
    cases hf : findE b.1 (Du.mk y.From y.Slot) with
    | none => simp only [Option.isSome_none, cf]; rfl
    | some w =>
      simp only [Option.isSome_some, ct, Option.getD_some, eqID]
      by_cases hw : w = y.Head
      · rw [decide_eq_true hw, Bool.not_true, cf]; simp [hw]
      · rw [decide_eq_false hw, Bool.not_false, ct]; simp [hw]) (by
    unfold FBook_s1
    simp only
    rw [decide_eq_false (show ¬ (l.length : Int) < (l.length : Int) by omega), cf, List.take_length]) (by omega)
  have e' : iter (FBook_s1 l) big (FBook_L1.mk 0 [] []) = _ := e
  unfold FBook
  rw [e', ob]
theorem book_keys (l : List Vt) : ((bookP l).1.map Prod.fst).Nodup ∧ (bookP l).1.length ≤ l.length := by
  have key : ∀ k, k ≤ l.length → ((bookP (l.take k)).1.map Prod.fst).Nodup ∧ (bookP (l.take k)).1.length ≤ k := by
    intro k
    induction k with
    | zero => intro _; simp [bookP]
    | succ k ih =>
      intro hk
      obtain ⟨y, hy, -⟩ := get_of (l := l) (n := k) (by omega)
      have et : l.take (k + 1) = l.take k ++ [y] := by rw [List.take_add_one, hy]; rfl
      obtain ⟨h1, h2⟩ := ih (by omega)
      rw [et, bookP_snoc]
      exact ⟨keys_nodup _ _ h1, Nat.le_trans (keys_len _ _ _) (by omega)⟩
  have := key l.length (Nat.le_refl _)
  rwa [List.take_length] at this
def keepE (d : List (Du × Bool)) (slot : Int) (e : Du × ID) : Option Vt := if e.1.slot = slot ∧ (findE d e.1).getD false = false then some ⟨e.1.frm, slot, e.2⟩ else none
def keepJ (b : List (Du × ID) × List (Du × Bool)) (slot : Int) (j : Nat) : Option Vt := (b.1[j]?).bind (keepE b.2 slot)
theorem FOf_fold {slot : Int} {b : List (Du × ID) × List (Du × Bool)} : ∀ (ord : List Nat) (out : List Vt), (∀ j ∈ ord, j < b.1.length) → out.length + ord.length ≤ 100000 → foldJ (FOf_s1 slot b) ord (FOf_L1.mk out) = some (FOf_L1.mk (out ++ ord.filterMap (keepJ b slot)))
  | [], out, _, _ => by simp [foldJ]
  | j :: r, out, hj, hl => by
    obtain ⟨e, he, -⟩ := get_of (hj j (.head _))
    have hl2 : out.length + r.length + 1 ≤ 100000 := by simp only [List.length_cons] at hl; omega
    have hs : FOf_s1 slot b j (FOf_L1.mk out) = some (FOf_L1.mk (out ++ (keepE b.2 slot e).toList)) := by
      unfold FOf_s1
      rw [he, ob]
      unfold keepE
      simp only
      rw [beq_self_eq_true, Bool.true_and, Bool.and_true]
      by_cases h1 : e.1.slot = slot
      · rw [beq_iff_eq.2 h1, ct, ob]
        cases h2 : (findE b.2 e.1).getD false with
        | false =>
          rw [Bool.not_false, ct, room_ok (by simp only [List.length_singleton]; omega) (by omega), ct, if_pos ⟨h1, rfl⟩]; rfl
        | true => rw [Bool.not_true, cf, if_neg (by simp)]; simp
      · rw [beq_eq_false_iff_ne.2 h1, cf, ob, cf, if_neg (fun h => h1 h.1)]; simp
    have hlen : (keepE b.2 slot e).toList.length ≤ 1 := by cases keepE b.2 slot e <;> simp
    unfold foldJ
    rw [hs]
    simp only
    rw [FOf_fold r _ (fun i hi => hj i (.tail _ hi)) (by rw [List.length_append]; omega)]
    have hk : keepJ b slot j = keepE b.2 slot e := by unfold keepJ; rw [he]; rfl
    rw [List.filterMap_cons, hk]
    cases keepE b.2 slot e <;> simp
theorem range_keep (b : List (Du × ID) × List (Du × Bool)) (slot : Int) : (List.range b.1.length).filterMap (keepJ b slot) = b.1.filterMap (keepE b.2 slot) := by
  have key : ∀ k, k ≤ b.1.length → (List.range k).filterMap (keepJ b slot) = (b.1.take k).filterMap (keepE b.2 slot) := by
    intro k
    induction k with
    | zero => intro _; rfl
    | succ k ih =>
      intro hk
      obtain ⟨y, hy, -⟩ := get_of (l := b.1) (n := k) (by omega)
      have et : b.1.take (k + 1) = b.1.take k ++ [y] := by rw [List.take_add_one, hy]; rfl
      rw [List.range_succ, List.filterMap_append, ih (by omega), et, List.filterMap_append]
      congr 1
      have hk2 : keepJ b slot k = keepE b.2 slot y := by unfold keepJ; rw [hy]; rfl
      rw [List.filterMap_cons, List.filterMap_cons, hk2]
      rfl
  have := key b.1.length (Nat.le_refl _)
  rwa [List.take_length] at this
def ofV (l : List Vt) (slot : Int) : List Vt := sortV ((bookP l).1.filterMap (keepE (bookP l).2 slot))
theorem keep_one {m : List (Du × ID)} {d : List (Du × Bool)} {slot : Int} (h : (m.map Prod.fst).Nodup) : ∀ x ∈ m.filterMap (keepE d slot), ∀ y ∈ m.filterMap (keepE d slot), x.From = y.From → x = y := by
  have hmem : ∀ x ∈ m.filterMap (keepE d slot), (⟨x.From, slot⟩, x.Head) ∈ m ∧ x.Slot = slot := by
    intro x hx
    obtain ⟨e, he, hk⟩ := List.mem_filterMap.1 hx
    unfold keepE at hk
    split at hk
    · rename_i hc
      cases hk
      obtain ⟨⟨f, s⟩, id⟩ := e
      simp only at hc
      obtain ⟨rfl, -⟩ := hc
      exact ⟨he, rfl⟩
    · cases hk
  intro x hx y hy hf
  obtain ⟨h1, h2⟩ := hmem x hx
  obtain ⟨h3, h4⟩ := hmem y hy
  rw [← hf] at h3
  have hh : x.Head = y.Head := by
    obtain ⟨i, hi⟩ := List.getElem?_of_mem h1
    obtain ⟨j, hj⟩ := List.getElem?_of_mem h3
    have hi' : (m.map Prod.fst)[i]? = some ⟨x.From, slot⟩ := by rw [List.getElem?_map, hi]; rfl
    have hj' : (m.map Prod.fst)[j]? = some ⟨x.From, slot⟩ := by rw [List.getElem?_map, hj]; rfl
    have := (List.getElem?_inj (List.getElem?_eq_some_iff.1 hi').1 h).1 (hi'.trans hj'.symm)
    subst this
    rw [hi] at hj
    exact congrArg Prod.snd (Option.some.inj hj)
  cases x; cases y
  simp only at hf h2 h4 hh
  subst hf h2 hh
  rw [h4]
theorem FOf_eq {l : List Vt} (hl : l.length ≤ 90000) (slot : Int) : ∀ ord : List Nat, ord.Perm (List.range (bookP l).1.length) → FOf slot (bookP l) ord = some (ofV l slot) := by
  intro ord ho
  obtain ⟨h1, h2⟩ := book_keys l
  have hlen := ho.length_eq
  rw [List.length_range] at hlen
  unfold FOf ofV
  have hp := ho.filterMap (keepJ (bookP l) slot)
  rw [range_keep] at hp
  have hk : sortOk (ord.filterMap (keepJ (bookP l) slot)) = true := decide_eq_true ⟨Nat.le_trans (List.length_filterMap_le _ _) (by omega), fun x hx y hy => keep_one h1 x (hp.mem_iff.1 hx) y (hp.mem_iff.1 hy)⟩
  rw [FOf_fold ord [] (fun j hj => List.mem_range.1 (ho.mem_iff.1 hj)) (by simp; omega), ob, List.nil_append]
  simp only
  unfold FSorted
  rw [hk, ct, sortV_one hp.symm (keep_one h1)]
  rfl
def FOfV (v : List Vt) (slot : Int) : Option (List Vt) := bif Nat.ble v.length 90000 then some (ofV v slot) else none
theorem cFOfV {v : List Vt} {slot : Int} {r_ : List Vt} (hr : FOfV v slot = some r_) : LC Tryz.prog 135 [.p (.slice 4 (v.map vtP)), .p (.int .i64 slot)] [] (Is (.vec 4 0 (r_.map vtP).length 0 (r_.map vtP).length) [.vec 4 (r_.map vtP)]) := by
  unfold FOfV at hr
  obtain ⟨q, hr⟩ := grd_get hr
  obtain rfl := Option.some.inj hr
  have hl := Nat.le_of_ble_eq_true q
  exact cFOf (FBook_eq (by omega)) (FOf_eq hl slot)
end Go.Mg
