/- A view that grows. view.Take. Laws of views. Conditions: none. -/
import Derived.Test.YtlhocfhoocmfiaaV1
namespace Go.Mg
open Go.Proofs
def F159 (n : Int) (most : Int) (full : Bool) : Option (Bool × Bool) :=
  bif full then
    some (decide (n < most), true)
  else
    some (decide (n < most), decide (n ≥ most))
set_option maxRecDepth 100000 in
theorem cF159 {n : Int} {most : Int} {wB : List Bk} {wV : List Vt} {sm : List (ID × Int)} {hm : List (Vt × Bool)} {upto : Int} {full : Bool} {lB : List Bk} {lV : List Vt} {n0 : Nat} {k0 : Nat} {n1 : Nat} {k1 : Nat} {r_ : Bool × Bool} (hr : F159 n most full = some r_) : LC Try.prog 159 [.ptr 10 0, .p (.int .i64 n), .p (.int .i64 most)] [.dead, .dead, .dead, .box [.zs, .zs], .box [.zs, .zs], .dead, .vec 5 (wB.map blkP), .vec 4 (wV.map vtP), .map (entsOf idP (fun v => .p (.int .i64 v)) sm), .map (entsOf vtP (fun v => .p (.bool v)) hm), .box [.vec 5 6 (wB.map blkP).length 0 (wB.map blkP).length, .vec 4 7 (wV.map vtP).length 0 (wV.map vtP).length, .map 8, .map 9, .p (.int .i64 upto), .p (.bool full)], .dead, .dead, .dead, .vec 5 (lB.map blkP), .vec 4 (lV.map vtP), .box [.vec 5 14 n0 0 k0, .vec 4 15 n1 0 k1]] (Is (.p (.bool r_.1)) [.dead, .dead, .dead, .box [.zs, .zs], .box [.zs, .zs], .dead, .vec 5 (wB.map blkP), .vec 4 (wV.map vtP), .map (entsOf idP (fun v => .p (.int .i64 v)) sm), .map (entsOf vtP (fun v => .p (.bool v)) hm), .box [.vec 5 6 (wB.map blkP).length 0 (wB.map blkP).length, .vec 4 7 (wV.map vtP).length 0 (wV.map vtP).length, .map 8, .map 9, .p (.int .i64 upto), .p (.bool r_.2)], .dead, .dead, .dead, .vec 5 (lB.map blkP), .vec 4 (lV.map vtP), .box [.vec 5 14 n0 0 k0, .vec 4 15 n1 0 k1]]) := by
  refine LC.start Try.func159 rfl rfl rfl ?_
  unfold F159 at hr
  refine LW.seq ?_
  refine LW.region ?_
  refine LOps.st rfl rfl rfl (LOp.assign rfl rfl) ?_
  refine LOps.nil ?_
  refine thn_n ?_
  refine LW.seq ?_
  refine LW.region ?_
  refine LOps.st rfl rfl rfl (LOp.move rfl rfl) ?_
  refine LOps.st rfl rfl rfl (LOp.move rfl rfl) ?_
  refine LOps.st rfl rfl rfl (LOp.nilCheck rfl rfl) ?_
  refine LOps.st rfl rfl rfl (LOp.fieldAddr rfl rfl ft149_4) ?_
  refine LOps.st rfl rfl rfl (LOp.load rfl rfl rfl vt4 rfl rfl) ?_
  refine LOps.st rfl rfl rfl (LOp.move rfl rfl) ?_
  refine LOps.cases 12 rfl (fun (g1 : full = true) => ?_) (fun (g1 : full = false) => ?_)
  · -- g1 is True
    have hr := ite_t g1 hr
    refine LOps.sk rfl rfl rfl (gd g1 rfl) rfl rfl ?_
    refine LOps.sk rfl rfl rfl (gd g1 rfl) rfl rfl ?_
    refine LOps.sk rfl rfl rfl (gd g1 rfl) rfl rfl ?_
    refine LOps.st rfl rfl rfl (LOp.pickT rfl (gdl g1 rfl) rfl) ?_
    refine LOps.st rfl rfl rfl (LOp.nilCheck rfl rfl) ?_
    refine LOps.st rfl rfl rfl (LOp.fieldAddr rfl rfl ft149_4) ?_
    refine LOps.st rfl rfl rfl (LOp.store rfl rfl rfl rfl vt4 rfl rfl rfl rfl) ?_
    refine LOps.nil ?_
    refine thn_n ?_
    refine LW.seq ?_
    refine LW.region ?_
    refine LOps.st rfl rfl rfl (LOp.move rfl rfl) ?_
    refine LOps.st rfl rfl rfl (LOp.move rfl rfl) ?_
    refine LOps.st rfl rfl rfl (LOp.bin rfl rfl rfl rfl) ?_
    refine LOps.st rfl rfl rfl (LOp.assign rfl rfl) ?_
    refine LOps.nil ?_
    refine thn_n ?_
    refine LW.ret ?_
    obtain rfl := Option.some.inj hr
    refine fin_ret (.one (.tmp rfl)) ?_
    exact ⟨rfl, rfl⟩
  · -- g1 is False
    have hr := ite_f g1 hr
    refine LOps.gd rfl rfl rfl (gd g1 rfl) rfl (LOp.move rfl rfl) ?_
    refine LOps.gd rfl rfl rfl (gd g1 rfl) rfl (LOp.move rfl rfl) ?_
    refine LOps.gd rfl rfl rfl (gd g1 rfl) rfl (LOp.bin rfl rfl rfl rfl) ?_
    refine LOps.st rfl rfl rfl (LOp.pickF rfl (gdl g1 rfl) rfl) ?_
    refine LOps.st rfl rfl rfl (LOp.nilCheck rfl rfl) ?_
    refine LOps.st rfl rfl rfl (LOp.fieldAddr rfl rfl ft149_4) ?_
    refine LOps.st rfl rfl rfl (LOp.store rfl rfl rfl rfl vt4 rfl rfl rfl rfl) ?_
    refine LOps.nil ?_
    refine thn_n ?_
    refine LW.seq ?_
    refine LW.region ?_
    refine LOps.st rfl rfl rfl (LOp.move rfl rfl) ?_
    refine LOps.st rfl rfl rfl (LOp.move rfl rfl) ?_
    refine LOps.st rfl rfl rfl (LOp.bin rfl rfl rfl rfl) ?_
    refine LOps.st rfl rfl rfl (LOp.assign rfl rfl) ?_
    refine LOps.nil ?_
    refine thn_n ?_
    refine LW.ret ?_
    obtain rfl := Option.some.inj hr
    refine fin_ret (.one (.tmp rfl)) ?_
    exact ⟨rfl, rfl⟩
def F135 (b : Bk) (wB : List Bk) (sm : List (ID × Int)) (upto : Int) (full : Bool) : Option (Bool × List Bk × List (ID × Int) × Bool) :=
  (
    bif (findE sm (nm b)).isSome then
      some ((findE sm (nm b)).isSome)
    else
      bif (findE sm b.Parent).isSome then
        some (decide (((findE sm b.Parent).getD 0) ≥ b.Slot))
      else
        some false
  ).bind fun v1 =>
  bif v1 then
    some (true, wB, sm, full)
  else
    (
      bif !((findE sm b.Parent).isSome) then
        some (!((findE sm b.Parent).isSome), full)
      else
        bif decide (b.Slot > upto) then
          some (decide (b.Slot > upto), full)
        else
          (F159 (wB.length : Int) 60 full).bind fun v3 =>
          some (!v3.1, v3.2)
    ).bind fun v2 =>
    bif v2.1 then
      some (false, wB, sm, v2.2)
    else
      bif room wB.length [b].length 40 then
        bif fewE sm then
          some (true, wB ++ [b], setE sm (nm b) b.Slot, v2.2)
        else none
      else none
set_option maxRecDepth 100000 in
theorem cF135 {b : Bk} {wB : List Bk} {wV : List Vt} {sm : List (ID × Int)} {hm : List (Vt × Bool)} {upto : Int} {full : Bool} {lB : List Bk} {lV : List Vt} {n0 : Nat} {k0 : Nat} {n1 : Nat} {k1 : Nat} {r_ : Bool × List Bk × List (ID × Int) × Bool} (hr : F135 b wB sm upto full = some r_) : LC Try.prog 135 [.ptr 10 0, .p (blkP b)] [.dead, .dead, .dead, .box [.zs, .zs], .box [.zs, .zs], .dead, .vec 5 (wB.map blkP), .vec 4 (wV.map vtP), .map (entsOf idP (fun v => .p (.int .i64 v)) sm), .map (entsOf vtP (fun v => .p (.bool v)) hm), .box [.vec 5 6 (wB.map blkP).length 0 (wB.map blkP).length, .vec 4 7 (wV.map vtP).length 0 (wV.map vtP).length, .map 8, .map 9, .p (.int .i64 upto), .p (.bool full)], .dead, .dead, .dead, .vec 5 (lB.map blkP), .vec 4 (lV.map vtP), .box [.vec 5 14 n0 0 k0, .vec 4 15 n1 0 k1]] (Is (.p (.bool r_.1)) [.dead, .dead, .dead, .box [.zs, .zs], .box [.zs, .zs], .dead, .vec 5 (r_.2.1.map blkP), .vec 4 (wV.map vtP), .map (entsOf idP (fun v => .p (.int .i64 v)) r_.2.2.1), .map (entsOf vtP (fun v => .p (.bool v)) hm), .box [.vec 5 6 (r_.2.1.map blkP).length 0 (r_.2.1.map blkP).length, .vec 4 7 (wV.map vtP).length 0 (wV.map vtP).length, .map 8, .map 9, .p (.int .i64 upto), .p (.bool r_.2.2.2)], .dead, .dead, .dead, .vec 5 (lB.map blkP), .vec 4 (lV.map vtP), .box [.vec 5 14 n0 0 k0, .vec 4 15 n1 0 k1]]) := by
  refine LC.start Try.func135 rfl rfl rfl ?_
  unfold F135 at hr
  refine LW.seq ?_
  refine LW.region ?_
  refine LOps.st rfl rfl rfl (LOp.box rfl rfl rfl rfl rfl) ?_
  refine LOps.st rfl rfl rfl (LOp.assign rfl rfl) ?_
  refine LOps.nil ?_
  refine thn_n ?_
  refine LW.seq ?_
  refine LW.region ?_
  refine LOps.st rfl rfl rfl (LOp.load rfl rfl rfl vt42 rfl rfl) ?_
  refine LOps.st rfl rfl rfl (LOp.call rfl rfl rfl (by kernel_rfl) (LC.pure (c50 (b := b)) (.cons Conv.p .nil))) ?_
  refine LOps.st rfl rfl rfl (LOp.alloc rfl zt24 rfl rfl) ?_
  refine LOps.st rfl rfl rfl (LOp.store rfl rfl rfl rfl vt24 rfl rfl rfl rfl) ?_
  refine LOps.nil ?_
  refine thn_n ?_
  refine LW.seq ?_
  refine LW.draw (by kernel_rfl) (by kernel_rfl) ?_
  refine LO.st rfl rfl rfl (LOp.move rfl rfl) ?_
  refine LO.st rfl rfl rfl (LOp.nilCheck rfl rfl) ?_
  refine LO.st rfl rfl rfl (LOp.fieldAddr rfl rfl ft149_1) ?_
  refine LO.st rfl rfl rfl (LOp.load rfl rfl rfl vt91 rfl rfl) ?_
  refine LO.st rfl rfl rfl (LOp.load rfl rfl rfl vt24 rfl rfl) ?_
  refine LO.st rfl rfl rfl (LOp.getX (f := idP) (g := (fun v => .p (.int .i64 v))) (nm b) 0 idKey rfl rfl rfl rfl mt91 zl3 rfl rfl) ?_
  refine LO.st rfl rfl rfl (LOp.move rfl rfl) ?_
  refine LO.st rfl rfl rfl (LOp.extract rfl rfl rfl) ?_
  refine LO.st rfl rfl rfl (LOp.extract rfl rfl rfl) ?_
  refine LO.st rfl rfl rfl (LOp.assign rfl rfl) ?_
  refine LO.st rfl rfl rfl (LOp.assign rfl rfl) ?_
  refine LO.nil ?_
  refine thn_n ?_
  refine LW.seq ?_
  refine LW.draw (by kernel_rfl) (by kernel_rfl) ?_
  refine LO.st rfl rfl rfl (LOp.move rfl rfl) ?_
  refine LO.st rfl rfl rfl (LOp.nilCheck rfl rfl) ?_
  refine LO.st rfl rfl rfl (LOp.fieldAddr rfl rfl ft149_1) ?_
  refine LO.st rfl rfl rfl (LOp.load rfl rfl rfl vt91 rfl rfl) ?_
  refine LO.st rfl rfl rfl (LOp.fieldAddr rfl rfl ft42_2) ?_
  refine LO.st rfl rfl rfl (LOp.load rfl rfl rfl vt24 rfl rfl) ?_
  refine LO.st rfl rfl rfl (LOp.getX (f := idP) (g := (fun v => .p (.int .i64 v))) b.Parent 0 idKey rfl rfl rfl rfl mt91 zl3 rfl rfl) ?_
  refine LO.st rfl rfl rfl (LOp.move rfl rfl) ?_
  refine LO.st rfl rfl rfl (LOp.extract rfl rfl rfl) ?_
  refine LO.st rfl rfl rfl (LOp.extract rfl rfl rfl) ?_
  refine LO.st rfl rfl rfl (LOp.assign rfl rfl) ?_
  refine LO.st rfl rfl rfl (LOp.assign rfl rfl) ?_
  refine LO.nil ?_
  refine thn_n ?_
  refine LW.seq ?_
  refine LW.block ?_
  obtain ⟨v1, hb_v1, ho_v1⟩ := bind_get hr
  clear hr
  refine LW.cut (E := [(0, .ptr 10 0), (3, .ptr 17 0), (4, .p (.bool false)), (5, .ptr 18 0), (9, .p (.bool ((findE sm b.Parent).isSome))), (31, .p (.bool v1))]) (O := [.dead, .dead, .dead, .box [.zs, .zs], .box [.zs, .zs], .dead, .vec 5 (wB.map blkP), .vec 4 (wV.map vtP), .map (entsOf idP (fun v => .p (.int .i64 v)) sm), .map (entsOf vtP (fun v => .p (.bool v)) hm), .box [.vec 5 6 (wB.map blkP).length 0 (wB.map blkP).length, .vec 4 7 (wV.map vtP).length 0 (wV.map vtP).length, .map 8, .map 9, .p (.int .i64 upto), .p (.bool full)], .dead, .dead, .dead, .vec 5 (lB.map blkP), .vec 4 (lV.map vtP), .box [.vec 5 14 n0 0 k0, .vec 4 15 n1 0 k1], .box [.p (.int .i64 b.Slot), .p (.int .i64 b.From), .p (.int .u64 b.Parent.1), .p (.int .u64 b.Parent.2), .p (.int .u64 b.Salt)], .box [.p (.int .u64 ((nm b).1)), .p (.int .u64 ((nm b).2))]]) ?_ ?_
  · have hr := hb_v1
    refine LW.seq ?_
    refine LW.region ?_
    refine LOps.st rfl rfl rfl (LOp.move rfl rfl) ?_
    refine LOps.st rfl rfl rfl (LOp.assign rfl rfl) ?_
    refine LOps.nil ?_
    refine thn_n ?_
    refine LW.cond rfl (fun (g1 : ((findE sm (nm b)).isSome) = true) => ?_) (fun (g1 : ((findE sm (nm b)).isSome) = false) => ?_)
    · -- g1 is True
      have hr := ite_t g1 hr
      refine LW.skip ?_
      refine thn_n ?_
      obtain rfl := Option.some.inj hr
      exact Weak.of 19 ⟨rfl, rfl, rfl, rfl, rfl, rfl, trivial⟩ rfl rfl rfl (lowObjs_cons rfl (lowObjs_cons rfl (lowObjs_cons rfl (lowObjs_cons rfl (lowObjs_cons rfl (lowObjs_cons rfl (lowObjs_cons rfl (lowObjs_cons rfl (lowObjs_cons (entsLow (fun _ => rfl) _) (lowObjs_cons (entsLow (fun _ => rfl) _) (lowObjs_cons rfl (lowObjs_cons rfl (lowObjs_cons rfl (lowObjs_cons rfl (lowObjs_cons rfl (lowObjs_cons rfl (lowObjs_cons rfl (lowObjs_cons rfl (lowObjs_cons rfl rfl)))))))))))))))))))
    · -- g1 is False
      have hr := ite_f g1 hr
      refine LW.region ?_
      refine LOps.st rfl rfl rfl (LOp.move rfl rfl) ?_
      refine LOps.st rfl rfl rfl (LOp.move rfl rfl) ?_
      refine LOps.cases 34 rfl (fun (g2 : ((findE sm b.Parent).isSome) = true) => ?_) (fun (g2 : ((findE sm b.Parent).isSome) = false) => ?_)
      · -- g2 is True
        have hr := ite_t g2 hr
        refine LOps.gd rfl rfl rfl (gd g2 rfl) rfl (LOp.move rfl rfl) ?_
        refine LOps.gd rfl rfl rfl (gd g2 rfl) rfl (LOp.fieldAddr rfl rfl ft42_0) ?_
        refine LOps.gd rfl rfl rfl (gd g2 rfl) rfl (LOp.load rfl rfl rfl vt3 rfl rfl) ?_
        refine LOps.gd rfl rfl rfl (gd g2 rfl) rfl (LOp.bin rfl rfl rfl rfl) ?_
        refine LOps.st rfl rfl rfl (LOp.pickT rfl (gdl g2 rfl) rfl) ?_
        refine LOps.st rfl rfl rfl (LOp.assign rfl rfl) ?_
        refine LOps.nil ?_
        refine thn_n ?_
        obtain rfl := Option.some.inj hr
        exact Weak.of 19 ⟨rfl, rfl, rfl, rfl, rfl, rfl, trivial⟩ rfl rfl rfl (lowObjs_cons rfl (lowObjs_cons rfl (lowObjs_cons rfl (lowObjs_cons rfl (lowObjs_cons rfl (lowObjs_cons rfl (lowObjs_cons rfl (lowObjs_cons rfl (lowObjs_cons (entsLow (fun _ => rfl) _) (lowObjs_cons (entsLow (fun _ => rfl) _) (lowObjs_cons rfl (lowObjs_cons rfl (lowObjs_cons rfl (lowObjs_cons rfl (lowObjs_cons rfl (lowObjs_cons rfl (lowObjs_cons rfl (lowObjs_cons rfl (lowObjs_cons rfl rfl)))))))))))))))))))
      · -- g2 is False
        have hr := ite_f g2 hr
        refine LOps.sk rfl rfl rfl (gd g2 rfl) rfl rfl ?_
        refine LOps.sk rfl rfl rfl (gd g2 rfl) rfl rfl ?_
        refine LOps.sk rfl rfl rfl (gd g2 rfl) rfl rfl ?_
        refine LOps.sk rfl rfl rfl (gd g2 rfl) rfl rfl ?_
        refine LOps.st rfl rfl rfl (LOp.pickF rfl (gdl g2 rfl) rfl) ?_
        refine LOps.st rfl rfl rfl (LOp.assign rfl rfl) ?_
        refine LOps.nil ?_
        refine thn_n ?_
        obtain rfl := Option.some.inj hr
        exact Weak.of 19 ⟨rfl, rfl, rfl, rfl, rfl, rfl, trivial⟩ rfl rfl rfl (lowObjs_cons rfl (lowObjs_cons rfl (lowObjs_cons rfl (lowObjs_cons rfl (lowObjs_cons rfl (lowObjs_cons rfl (lowObjs_cons rfl (lowObjs_cons rfl (lowObjs_cons (entsLow (fun _ => rfl) _) (lowObjs_cons (entsLow (fun _ => rfl) _) (lowObjs_cons rfl (lowObjs_cons rfl (lowObjs_cons rfl (lowObjs_cons rfl (lowObjs_cons rfl (lowObjs_cons rfl (lowObjs_cons rfl (lowObjs_cons rfl (lowObjs_cons rfl rfl)))))))))))))))))))
  · have hr := ho_v1
    clear hb_v1
    refine LW.cond rfl (fun (g3 : v1 = true) => ?_) (fun (g3 : v1 = false) => ?_)
    · -- g3 is True
      have hr := ite_t g3 hr
      refine LW.seq ?_
      refine LW.region ?_
      refine LOps.st rfl rfl rfl (LOp.assign rfl rfl) ?_
      refine LOps.nil ?_
      refine thn_n ?_
      refine LW.ret ?_
      refine inBlk_r ?_
      refine thn_r ?_
      obtain rfl := Option.some.inj hr
      refine fin_retW (env' := [(4, .p (.bool true))]) (H' := [.dead, .dead, .dead, .box [.zs, .zs], .box [.zs, .zs], .dead, .vec 5 (wB.map blkP), .vec 4 (wV.map vtP), .map (entsOf idP (fun v => .p (.int .i64 v)) sm), .map (entsOf vtP (fun v => .p (.bool v)) hm), .box [.vec 5 6 (wB.map blkP).length 0 (wB.map blkP).length, .vec 4 7 (wV.map vtP).length 0 (wV.map vtP).length, .map 8, .map 9, .p (.int .i64 upto), .p (.bool full)], .dead, .dead, .dead, .vec 5 (lB.map blkP), .vec 4 (lV.map vtP), .box [.vec 5 14 n0 0 k0, .vec 4 15 n1 0 k1]]) (Weak.of 17 ⟨rfl, trivial⟩ rfl rfl rfl (lowObjs_cons rfl (lowObjs_cons rfl (lowObjs_cons rfl (lowObjs_cons rfl (lowObjs_cons rfl (lowObjs_cons rfl (lowObjs_cons rfl (lowObjs_cons rfl (lowObjs_cons (entsLow (fun _ => rfl) _) (lowObjs_cons (entsLow (fun _ => rfl) _) (lowObjs_cons rfl (lowObjs_cons rfl (lowObjs_cons rfl (lowObjs_cons rfl (lowObjs_cons rfl (lowObjs_cons rfl (lowObjs_cons rfl rfl)))))))))))))))))) (.one (.tmp rfl)) ?_
      exact ⟨rfl, rfl⟩
    · -- g3 is False
      have hr := ite_f g3 hr
      obtain ⟨v2, hb_v2, ho_v2⟩ := bind_get hr
      clear hr
      refine LW.cut (E := [(0, .ptr 10 0), (3, .ptr 17 0), (4, .p (.bool false)), (5, .ptr 18 0), (40, .p (.bool v2.1))]) (O := [.dead, .dead, .dead, .box [.zs, .zs], .box [.zs, .zs], .dead, .vec 5 (wB.map blkP), .vec 4 (wV.map vtP), .map (entsOf idP (fun v => .p (.int .i64 v)) sm), .map (entsOf vtP (fun v => .p (.bool v)) hm), .box [.vec 5 6 (wB.map blkP).length 0 (wB.map blkP).length, .vec 4 7 (wV.map vtP).length 0 (wV.map vtP).length, .map 8, .map 9, .p (.int .i64 upto), .p (.bool v2.2)], .dead, .dead, .dead, .vec 5 (lB.map blkP), .vec 4 (lV.map vtP), .box [.vec 5 14 n0 0 k0, .vec 4 15 n1 0 k1], .box [.p (.int .i64 b.Slot), .p (.int .i64 b.From), .p (.int .u64 b.Parent.1), .p (.int .u64 b.Parent.2), .p (.int .u64 b.Salt)], .box [.p (.int .u64 ((nm b).1)), .p (.int .u64 ((nm b).2))]]) ?_ ?_
      · have hr := hb_v2
        refine LW.seq ?_
        refine LW.region ?_
        refine LOps.st rfl rfl rfl (LOp.move rfl rfl) ?_
        refine LOps.st rfl rfl rfl (LOp.not rfl rfl) ?_
        refine LOps.st rfl rfl rfl (LOp.assign rfl rfl) ?_
        refine LOps.nil ?_
        refine thn_n ?_
        refine LW.cond rfl (fun (g4 : (!((findE sm b.Parent).isSome)) = true) => ?_) (fun (g4 : (!((findE sm b.Parent).isSome)) = false) => ?_)
        · -- g4 is True
          have hr := ite_t g4 hr
          refine LW.skip ?_
          refine thn_n ?_
          obtain rfl := Option.some.inj hr
          exact Weak.of 19 ⟨rfl, rfl, rfl, rfl, rfl, trivial⟩ rfl rfl rfl (lowObjs_cons rfl (lowObjs_cons rfl (lowObjs_cons rfl (lowObjs_cons rfl (lowObjs_cons rfl (lowObjs_cons rfl (lowObjs_cons rfl (lowObjs_cons rfl (lowObjs_cons (entsLow (fun _ => rfl) _) (lowObjs_cons (entsLow (fun _ => rfl) _) (lowObjs_cons rfl (lowObjs_cons rfl (lowObjs_cons rfl (lowObjs_cons rfl (lowObjs_cons rfl (lowObjs_cons rfl (lowObjs_cons rfl (lowObjs_cons rfl (lowObjs_cons rfl rfl)))))))))))))))))))
        · -- g4 is False
          have hr := ite_f g4 hr
          refine LW.seq ?_
          refine LW.draw (by kernel_rfl) (by kernel_rfl) ?_
          refine LO.st rfl rfl rfl (LOp.fieldAddr rfl rfl ft42_0) ?_
          refine LO.st rfl rfl rfl (LOp.load rfl rfl rfl vt3 rfl rfl) ?_
          refine LO.st rfl rfl rfl (LOp.move rfl rfl) ?_
          refine LO.st rfl rfl rfl (LOp.nilCheck rfl rfl) ?_
          refine LO.st rfl rfl rfl (LOp.fieldAddr rfl rfl ft149_3) ?_
          refine LO.st rfl rfl rfl (LOp.load rfl rfl rfl vt3 rfl rfl) ?_
          refine LO.st rfl rfl rfl (LOp.bin rfl rfl rfl rfl) ?_
          refine LO.st rfl rfl rfl (LOp.assign rfl rfl) ?_
          refine LO.nil ?_
          refine thn_n ?_
          refine LW.cond rfl (fun (g5 : (decide (b.Slot > upto)) = true) => ?_) (fun (g5 : (decide (b.Slot > upto)) = false) => ?_)
          · -- g5 is True
            have hr := ite_t g5 hr
            refine LW.skip ?_
            refine thn_n ?_
            obtain rfl := Option.some.inj hr
            exact Weak.of 19 ⟨rfl, rfl, rfl, rfl, rfl, trivial⟩ rfl rfl rfl (lowObjs_cons rfl (lowObjs_cons rfl (lowObjs_cons rfl (lowObjs_cons rfl (lowObjs_cons rfl (lowObjs_cons rfl (lowObjs_cons rfl (lowObjs_cons rfl (lowObjs_cons (entsLow (fun _ => rfl) _) (lowObjs_cons (entsLow (fun _ => rfl) _) (lowObjs_cons rfl (lowObjs_cons rfl (lowObjs_cons rfl (lowObjs_cons rfl (lowObjs_cons rfl (lowObjs_cons rfl (lowObjs_cons rfl (lowObjs_cons rfl (lowObjs_cons rfl rfl)))))))))))))))))))
          · -- g5 is False
            have hr := ite_f g5 hr
            refine LW.region ?_
            refine LOps.st rfl rfl rfl (LOp.move rfl rfl) ?_
            refine LOps.st rfl rfl rfl (LOp.move rfl rfl) ?_
            refine LOps.st rfl rfl rfl (LOp.nilCheck rfl rfl) ?_
            refine LOps.st rfl rfl rfl (LOp.fieldAddr rfl rfl ft149_0) ?_
            refine LOps.st rfl rfl rfl (LOp.fieldAddr rfl rfl ft75_0) ?_
            refine LOps.st rfl rfl rfl (LOp.load rfl rfl rfl vt27 rfl rfl) ?_
            refine LOps.st rfl rfl rfl (LOp.lenVM rfl rfl rfl (by kernel_rfl)) ?_
            obtain ⟨v3, h_v3, hr⟩ := bind_get hr
            refine LOps.st rfl rfl rfl (LOp.call rfl rfl rfl (by kernel_rfl) (LC.pre (cF159 h_v3) rfl (lowObjs_cons rfl (lowObjs_cons rfl (lowObjs_cons rfl (lowObjs_cons rfl (lowObjs_cons rfl (lowObjs_cons rfl (lowObjs_cons rfl (lowObjs_cons rfl (lowObjs_cons (entsLow (fun _ => rfl) _) (lowObjs_cons (entsLow (fun _ => rfl) _) (lowObjs_cons rfl (lowObjs_cons rfl (lowObjs_cons rfl (lowObjs_cons rfl (lowObjs_cons rfl (lowObjs_cons rfl (lowObjs_cons rfl rfl))))))))))))))))) rfl)) ?_
            refine LOps.st rfl rfl rfl (LOp.not rfl rfl) ?_
            refine LOps.st rfl rfl rfl (LOp.assign rfl rfl) ?_
            refine LOps.nil ?_
            refine thn_n ?_
            obtain rfl := Option.some.inj hr
            exact Weak.of 19 ⟨rfl, rfl, rfl, rfl, rfl, trivial⟩ rfl rfl rfl (lowObjs_cons rfl (lowObjs_cons rfl (lowObjs_cons rfl (lowObjs_cons rfl (lowObjs_cons rfl (lowObjs_cons rfl (lowObjs_cons rfl (lowObjs_cons rfl (lowObjs_cons (entsLow (fun _ => rfl) _) (lowObjs_cons (entsLow (fun _ => rfl) _) (lowObjs_cons rfl (lowObjs_cons rfl (lowObjs_cons rfl (lowObjs_cons rfl (lowObjs_cons rfl (lowObjs_cons rfl (lowObjs_cons rfl (lowObjs_cons rfl (lowObjs_cons rfl rfl)))))))))))))))))))
      · have hr := ho_v2
        clear hb_v2
        refine LW.cond rfl (fun (g6 : v2.1 = true) => ?_) (fun (g6 : v2.1 = false) => ?_)
        · -- g6 is True
          have hr := ite_t g6 hr
          refine LW.seq ?_
          refine LW.region ?_
          refine LOps.st rfl rfl rfl (LOp.assign rfl rfl) ?_
          refine LOps.nil ?_
          refine thn_n ?_
          refine LW.ret ?_
          refine inBlk_r ?_
          refine thn_r ?_
          obtain rfl := Option.some.inj hr
          refine fin_retW (env' := [(4, .p (.bool false))]) (H' := [.dead, .dead, .dead, .box [.zs, .zs], .box [.zs, .zs], .dead, .vec 5 (wB.map blkP), .vec 4 (wV.map vtP), .map (entsOf idP (fun v => .p (.int .i64 v)) sm), .map (entsOf vtP (fun v => .p (.bool v)) hm), .box [.vec 5 6 (wB.map blkP).length 0 (wB.map blkP).length, .vec 4 7 (wV.map vtP).length 0 (wV.map vtP).length, .map 8, .map 9, .p (.int .i64 upto), .p (.bool v2.2)], .dead, .dead, .dead, .vec 5 (lB.map blkP), .vec 4 (lV.map vtP), .box [.vec 5 14 n0 0 k0, .vec 4 15 n1 0 k1]]) (Weak.of 17 ⟨rfl, trivial⟩ rfl rfl rfl (lowObjs_cons rfl (lowObjs_cons rfl (lowObjs_cons rfl (lowObjs_cons rfl (lowObjs_cons rfl (lowObjs_cons rfl (lowObjs_cons rfl (lowObjs_cons rfl (lowObjs_cons (entsLow (fun _ => rfl) _) (lowObjs_cons (entsLow (fun _ => rfl) _) (lowObjs_cons rfl (lowObjs_cons rfl (lowObjs_cons rfl (lowObjs_cons rfl (lowObjs_cons rfl (lowObjs_cons rfl (lowObjs_cons rfl rfl)))))))))))))))))) (.one (.tmp rfl)) ?_
          exact ⟨rfl, rfl⟩
        · -- g6 is False
          have hr := ite_f g6 hr
          refine LW.skip ?_
          refine inBlk_n ?_
          refine thn_n ?_
          refine LW.seq ?_
          refine LW.drawW (by kernel_rfl) (by kernel_rfl) ?_
          refine LF.st (F := []) (s := none) rfl rfl rfl (fun H _ => LOp.move rfl rfl) rfl ?_
          refine LF.st (F := []) (s := none) rfl rfl rfl (fun H _ => LOp.move rfl rfl) rfl ?_
          refine LF.st (F := []) (s := none) rfl rfl rfl (fun H _ => LOp.nilCheck rfl rfl) rfl ?_
          refine LF.st (F := []) (s := none) rfl rfl rfl (fun H _ => LOp.fieldAddr rfl rfl ft149_1) rfl ?_
          refine LF.st rfl rfl rfl (LAt.load rfl rfl rfl vt91 rfl rfl) rfl ?_
          refine LF.st rfl rfl rfl (LAt.load rfl rfl rfl vt24 rfl rfl) rfl ?_
          refine LF.st (F := []) (s := none) rfl rfl rfl (fun H _ => LOp.move rfl rfl) rfl ?_
          refine LF.st (F := []) (s := none) rfl rfl rfl (fun H _ => LOp.nilCheck rfl rfl) rfl ?_
          refine LF.st (F := []) (s := none) rfl rfl rfl (fun H _ => LOp.fieldAddr rfl rfl ft149_0) rfl ?_
          refine LF.st (F := []) (s := none) rfl rfl rfl (fun H _ => LOp.fieldAddr rfl rfl ft75_0) rfl ?_
          refine LF.st rfl rfl rfl (LAt.load rfl rfl rfl vt27 rfl rfl) rfl ?_
          refine LF.st rfl rfl rfl (LAt.load rfl rfl rfl vt42 rfl rfl) rfl ?_
          refine LF.st (F := []) (s := none) rfl rfl rfl (fun H _ => LOp.buildSlice rfl st27 rfl rfl rfl rfl rfl) rfl ?_
          obtain ⟨q1, hr⟩ := grd_get hr
          refine LF.st rfl rfl rfl (LAt.appendX blkP wB [b] rfl rfl rfl rfl rfl st27 q1) rfl ?_
          refine LF.st (F := []) (s := none) rfl rfl rfl (fun H _ => LOp.fieldAddr rfl rfl ft42_0) rfl ?_
          refine LF.st rfl rfl rfl (LAt.load rfl rfl rfl vt3 rfl rfl) rfl ?_
          refine LF.st (F := []) (s := none) rfl rfl rfl (fun H _ => LOp.nilCheck rfl rfl) rfl ?_
          refine LF.st (F := []) (s := none) rfl rfl rfl (fun H _ => LOp.fieldAddr rfl rfl ft149_0) rfl ?_
          refine LF.st (F := []) (s := none) rfl rfl rfl (fun H _ => LOp.fieldAddr rfl rfl ft75_0) rfl ?_
          refine LF.st rfl rfl rfl (LAt.store rfl rfl rfl rfl vt27 rfl rfl rfl) rfl ?_
          obtain ⟨q2, hr⟩ := grd_get hr
          refine LF.st rfl rfl rfl (LAt.mapEntryX (f := idP) (g := (fun v => .p (.int .i64 v))) (nm b) 0 idKey rfl rfl rfl rfl mt91 zl3 rfl q2) rfl ?_
          refine LF.st (F := []) (s := none) rfl rfl rfl (fun H _ => LOp.extract rfl rfl rfl) rfl ?_
          refine LF.st rfl rfl rfl (LAt.entryStoreX (f := idP) (g := (fun v => .p (.int .i64 v))) (m := sm) (nm b) ((findE sm (nm b)).getD 0) b.Slot idKey rfl rfl rfl rfl rfl rfl) rfl ?_
          refine LF.nil ⟨by kernel_rfl, ?_⟩
          refine thn_n ?_
          refine LW.seq ?_
          refine LW.region ?_
          refine LOps.st rfl rfl rfl (LOp.assign rfl rfl) ?_
          refine LOps.nil ?_
          refine thn_n ?_
          refine LW.ret ?_
          obtain rfl := Option.some.inj hr
          refine fin_retW (env' := [(4, .p (.bool true))]) (H' := [.dead, .dead, .dead, .box [.zs, .zs], .box [.zs, .zs], .dead, .vec 5 ((wB ++ [b]).map blkP), .vec 4 (wV.map vtP), .map (entsOf idP (fun v => .p (.int .i64 v)) (setE sm (nm b) b.Slot)), .map (entsOf vtP (fun v => .p (.bool v)) hm), .box [.vec 5 6 ((wB ++ [b]).map blkP).length 0 ((wB ++ [b]).map blkP).length, .vec 4 7 (wV.map vtP).length 0 (wV.map vtP).length, .map 8, .map 9, .p (.int .i64 upto), .p (.bool v2.2)], .dead, .dead, .dead, .vec 5 (lB.map blkP), .vec 4 (lV.map vtP), .box [.vec 5 14 n0 0 k0, .vec 4 15 n1 0 k1]]) (Weak.of 17 ⟨rfl, trivial⟩ rfl rfl rfl (lowObjs_cons rfl (lowObjs_cons rfl (lowObjs_cons rfl (lowObjs_cons rfl (lowObjs_cons rfl (lowObjs_cons rfl (lowObjs_cons rfl (lowObjs_cons rfl (lowObjs_cons (entsLow (fun _ => rfl) _) (lowObjs_cons (entsLow (fun _ => rfl) _) (lowObjs_cons rfl (lowObjs_cons rfl (lowObjs_cons rfl (lowObjs_cons rfl (lowObjs_cons rfl (lowObjs_cons rfl (lowObjs_cons rfl rfl)))))))))))))))))) (.one (.tmp rfl)) ?_
          exact ⟨rfl, rfl⟩
def F136 (x : Vt) (wV : List Vt) (sm : List (ID × Int)) (hm : List (Vt × Bool)) (upto : Int) (full : Bool) : Option (Bool × List Vt × List (Vt × Bool) × Bool) :=
  (
    bif (findE hm x).getD false then
      some ((findE hm x).getD false)
    else
      bif (findE sm x.Head).isSome then
        some (decide (((findE sm x.Head).getD 0) > x.Slot))
      else
        some false
  ).bind fun v1 =>
  bif v1 then
    some (true, wV, hm, full)
  else
    (
      bif !((findE sm x.Head).isSome) then
        some (!((findE sm x.Head).isSome), full)
      else
        bif decide (x.Slot > upto) then
          some (decide (x.Slot > upto), full)
        else
          (F159 (wV.length : Int) 240 full).bind fun v3 =>
          some (!v3.1, v3.2)
    ).bind fun v2 =>
    bif v2.1 then
      some (false, wV, hm, v2.2)
    else
      bif room wV.length [x].length 32 then
        bif fewE hm then
          some (true, wV ++ [x], setE hm x true, v2.2)
        else none
      else none
set_option maxRecDepth 100000 in
theorem cF136 {x : Vt} {wB : List Bk} {wV : List Vt} {sm : List (ID × Int)} {hm : List (Vt × Bool)} {upto : Int} {full : Bool} {lB : List Bk} {lV : List Vt} {n0 : Nat} {k0 : Nat} {n1 : Nat} {k1 : Nat} {r_ : Bool × List Vt × List (Vt × Bool) × Bool} (hr : F136 x wV sm hm upto full = some r_) : LC Try.prog 136 [.ptr 10 0, .p (vtP x)] [.dead, .dead, .dead, .box [.zs, .zs], .box [.zs, .zs], .dead, .vec 5 (wB.map blkP), .vec 4 (wV.map vtP), .map (entsOf idP (fun v => .p (.int .i64 v)) sm), .map (entsOf vtP (fun v => .p (.bool v)) hm), .box [.vec 5 6 (wB.map blkP).length 0 (wB.map blkP).length, .vec 4 7 (wV.map vtP).length 0 (wV.map vtP).length, .map 8, .map 9, .p (.int .i64 upto), .p (.bool full)], .dead, .dead, .dead, .vec 5 (lB.map blkP), .vec 4 (lV.map vtP), .box [.vec 5 14 n0 0 k0, .vec 4 15 n1 0 k1]] (Is (.p (.bool r_.1)) [.dead, .dead, .dead, .box [.zs, .zs], .box [.zs, .zs], .dead, .vec 5 (wB.map blkP), .vec 4 (r_.2.1.map vtP), .map (entsOf idP (fun v => .p (.int .i64 v)) sm), .map (entsOf vtP (fun v => .p (.bool v)) r_.2.2.1), .box [.vec 5 6 (wB.map blkP).length 0 (wB.map blkP).length, .vec 4 7 (r_.2.1.map vtP).length 0 (r_.2.1.map vtP).length, .map 8, .map 9, .p (.int .i64 upto), .p (.bool r_.2.2.2)], .dead, .dead, .dead, .vec 5 (lB.map blkP), .vec 4 (lV.map vtP), .box [.vec 5 14 n0 0 k0, .vec 4 15 n1 0 k1]]) := by
  refine LC.start Try.func136 rfl rfl rfl ?_
  unfold F136 at hr
  refine LW.seq ?_
  refine LW.region ?_
  refine LOps.st rfl rfl rfl (LOp.box rfl rfl rfl rfl rfl) ?_
  refine LOps.st rfl rfl rfl (LOp.assign rfl rfl) ?_
  refine LOps.nil ?_
  refine thn_n ?_
  refine LW.seq ?_
  refine LW.draw (by kernel_rfl) (by kernel_rfl) ?_
  refine LO.st rfl rfl rfl (LOp.move rfl rfl) ?_
  refine LO.st rfl rfl rfl (LOp.nilCheck rfl rfl) ?_
  refine LO.st rfl rfl rfl (LOp.fieldAddr rfl rfl ft149_1) ?_
  refine LO.st rfl rfl rfl (LOp.load rfl rfl rfl vt91 rfl rfl) ?_
  refine LO.st rfl rfl rfl (LOp.fieldAddr rfl rfl ft82_2) ?_
  refine LO.st rfl rfl rfl (LOp.load rfl rfl rfl vt24 rfl rfl) ?_
  refine LO.st rfl rfl rfl (LOp.getX (f := idP) (g := (fun v => .p (.int .i64 v))) x.Head 0 idKey rfl rfl rfl rfl mt91 zl3 rfl rfl) ?_
  refine LO.st rfl rfl rfl (LOp.move rfl rfl) ?_
  refine LO.st rfl rfl rfl (LOp.extract rfl rfl rfl) ?_
  refine LO.st rfl rfl rfl (LOp.extract rfl rfl rfl) ?_
  refine LO.st rfl rfl rfl (LOp.assign rfl rfl) ?_
  refine LO.st rfl rfl rfl (LOp.assign rfl rfl) ?_
  refine LO.nil ?_
  refine thn_n ?_
  refine LW.seq ?_
  refine LW.block ?_
  obtain ⟨v1, hb_v1, ho_v1⟩ := bind_get hr
  clear hr
  refine LW.cut (E := [(0, .ptr 10 0), (3, .ptr 17 0), (4, .p (.bool false)), (6, .p (.bool ((findE sm x.Head).isSome))), (17, .p (.bool v1))]) (O := [.dead, .dead, .dead, .box [.zs, .zs], .box [.zs, .zs], .dead, .vec 5 (wB.map blkP), .vec 4 (wV.map vtP), .map (entsOf idP (fun v => .p (.int .i64 v)) sm), .map (entsOf vtP (fun v => .p (.bool v)) hm), .box [.vec 5 6 (wB.map blkP).length 0 (wB.map blkP).length, .vec 4 7 (wV.map vtP).length 0 (wV.map vtP).length, .map 8, .map 9, .p (.int .i64 upto), .p (.bool full)], .dead, .dead, .dead, .vec 5 (lB.map blkP), .vec 4 (lV.map vtP), .box [.vec 5 14 n0 0 k0, .vec 4 15 n1 0 k1], .box [.p (.int .i64 x.From), .p (.int .i64 x.Slot), .p (.int .u64 x.Head.1), .p (.int .u64 x.Head.2)]]) ?_ ?_
  · have hr := hb_v1
    refine LW.seq ?_
    refine LW.draw (by kernel_rfl) (by kernel_rfl) ?_
    refine LO.st rfl rfl rfl (LOp.move rfl rfl) ?_
    refine LO.st rfl rfl rfl (LOp.nilCheck rfl rfl) ?_
    refine LO.st rfl rfl rfl (LOp.fieldAddr rfl rfl ft149_2) ?_
    refine LO.st rfl rfl rfl (LOp.load rfl rfl rfl vt147 rfl rfl) ?_
    refine LO.st rfl rfl rfl (LOp.load rfl rfl rfl vt82 rfl rfl) ?_
    refine LO.st rfl rfl rfl (LOp.getX (f := vtP) (g := (fun v => .p (.bool v))) x false vtKey rfl rfl rfl rfl mt147 zl4 rfl rfl) ?_
    refine LO.st rfl rfl rfl (LOp.assign rfl rfl) ?_
    refine LO.nil ?_
    refine thn_n ?_
    refine LW.cond rfl (fun (g1 : ((findE hm x).getD false) = true) => ?_) (fun (g1 : ((findE hm x).getD false) = false) => ?_)
    · -- g1 is True
      have hr := ite_t g1 hr
      refine LW.skip ?_
      refine thn_n ?_
      obtain rfl := Option.some.inj hr
      exact Weak.of 18 ⟨rfl, rfl, rfl, rfl, rfl, trivial⟩ rfl rfl rfl (lowObjs_cons rfl (lowObjs_cons rfl (lowObjs_cons rfl (lowObjs_cons rfl (lowObjs_cons rfl (lowObjs_cons rfl (lowObjs_cons rfl (lowObjs_cons rfl (lowObjs_cons (entsLow (fun _ => rfl) _) (lowObjs_cons (entsLow (fun _ => rfl) _) (lowObjs_cons rfl (lowObjs_cons rfl (lowObjs_cons rfl (lowObjs_cons rfl (lowObjs_cons rfl (lowObjs_cons rfl (lowObjs_cons rfl (lowObjs_cons rfl rfl))))))))))))))))))
    · -- g1 is False
      have hr := ite_f g1 hr
      refine LW.region ?_
      refine LOps.st rfl rfl rfl (LOp.move rfl rfl) ?_
      refine LOps.st rfl rfl rfl (LOp.move rfl rfl) ?_
      refine LOps.cases 25 rfl (fun (g2 : ((findE sm x.Head).isSome) = true) => ?_) (fun (g2 : ((findE sm x.Head).isSome) = false) => ?_)
      · -- g2 is True
        have hr := ite_t g2 hr
        refine LOps.gd rfl rfl rfl (gd g2 rfl) rfl (LOp.move rfl rfl) ?_
        refine LOps.gd rfl rfl rfl (gd g2 rfl) rfl (LOp.fieldAddr rfl rfl ft82_1) ?_
        refine LOps.gd rfl rfl rfl (gd g2 rfl) rfl (LOp.load rfl rfl rfl vt3 rfl rfl) ?_
        refine LOps.gd rfl rfl rfl (gd g2 rfl) rfl (LOp.bin rfl rfl rfl rfl) ?_
        refine LOps.st rfl rfl rfl (LOp.pickT rfl (gdl g2 rfl) rfl) ?_
        refine LOps.st rfl rfl rfl (LOp.assign rfl rfl) ?_
        refine LOps.nil ?_
        refine thn_n ?_
        obtain rfl := Option.some.inj hr
        exact Weak.of 18 ⟨rfl, rfl, rfl, rfl, rfl, trivial⟩ rfl rfl rfl (lowObjs_cons rfl (lowObjs_cons rfl (lowObjs_cons rfl (lowObjs_cons rfl (lowObjs_cons rfl (lowObjs_cons rfl (lowObjs_cons rfl (lowObjs_cons rfl (lowObjs_cons (entsLow (fun _ => rfl) _) (lowObjs_cons (entsLow (fun _ => rfl) _) (lowObjs_cons rfl (lowObjs_cons rfl (lowObjs_cons rfl (lowObjs_cons rfl (lowObjs_cons rfl (lowObjs_cons rfl (lowObjs_cons rfl (lowObjs_cons rfl rfl))))))))))))))))))
      · -- g2 is False
        have hr := ite_f g2 hr
        refine LOps.sk rfl rfl rfl (gd g2 rfl) rfl rfl ?_
        refine LOps.sk rfl rfl rfl (gd g2 rfl) rfl rfl ?_
        refine LOps.sk rfl rfl rfl (gd g2 rfl) rfl rfl ?_
        refine LOps.sk rfl rfl rfl (gd g2 rfl) rfl rfl ?_
        refine LOps.st rfl rfl rfl (LOp.pickF rfl (gdl g2 rfl) rfl) ?_
        refine LOps.st rfl rfl rfl (LOp.assign rfl rfl) ?_
        refine LOps.nil ?_
        refine thn_n ?_
        obtain rfl := Option.some.inj hr
        exact Weak.of 18 ⟨rfl, rfl, rfl, rfl, rfl, trivial⟩ rfl rfl rfl (lowObjs_cons rfl (lowObjs_cons rfl (lowObjs_cons rfl (lowObjs_cons rfl (lowObjs_cons rfl (lowObjs_cons rfl (lowObjs_cons rfl (lowObjs_cons rfl (lowObjs_cons (entsLow (fun _ => rfl) _) (lowObjs_cons (entsLow (fun _ => rfl) _) (lowObjs_cons rfl (lowObjs_cons rfl (lowObjs_cons rfl (lowObjs_cons rfl (lowObjs_cons rfl (lowObjs_cons rfl (lowObjs_cons rfl (lowObjs_cons rfl rfl))))))))))))))))))
  · have hr := ho_v1
    clear hb_v1
    refine LW.cond rfl (fun (g3 : v1 = true) => ?_) (fun (g3 : v1 = false) => ?_)
    · -- g3 is True
      have hr := ite_t g3 hr
      refine LW.seq ?_
      refine LW.region ?_
      refine LOps.st rfl rfl rfl (LOp.assign rfl rfl) ?_
      refine LOps.nil ?_
      refine thn_n ?_
      refine LW.ret ?_
      refine inBlk_r ?_
      refine thn_r ?_
      obtain rfl := Option.some.inj hr
      refine fin_retW (env' := [(4, .p (.bool true))]) (H' := [.dead, .dead, .dead, .box [.zs, .zs], .box [.zs, .zs], .dead, .vec 5 (wB.map blkP), .vec 4 (wV.map vtP), .map (entsOf idP (fun v => .p (.int .i64 v)) sm), .map (entsOf vtP (fun v => .p (.bool v)) hm), .box [.vec 5 6 (wB.map blkP).length 0 (wB.map blkP).length, .vec 4 7 (wV.map vtP).length 0 (wV.map vtP).length, .map 8, .map 9, .p (.int .i64 upto), .p (.bool full)], .dead, .dead, .dead, .vec 5 (lB.map blkP), .vec 4 (lV.map vtP), .box [.vec 5 14 n0 0 k0, .vec 4 15 n1 0 k1]]) (Weak.of 17 ⟨rfl, trivial⟩ rfl rfl rfl (lowObjs_cons rfl (lowObjs_cons rfl (lowObjs_cons rfl (lowObjs_cons rfl (lowObjs_cons rfl (lowObjs_cons rfl (lowObjs_cons rfl (lowObjs_cons rfl (lowObjs_cons (entsLow (fun _ => rfl) _) (lowObjs_cons (entsLow (fun _ => rfl) _) (lowObjs_cons rfl (lowObjs_cons rfl (lowObjs_cons rfl (lowObjs_cons rfl (lowObjs_cons rfl (lowObjs_cons rfl (lowObjs_cons rfl rfl)))))))))))))))))) (.one (.tmp rfl)) ?_
      exact ⟨rfl, rfl⟩
    · -- g3 is False
      have hr := ite_f g3 hr
      obtain ⟨v2, hb_v2, ho_v2⟩ := bind_get hr
      clear hr
      refine LW.cut (E := [(0, .ptr 10 0), (3, .ptr 17 0), (4, .p (.bool false)), (31, .p (.bool v2.1))]) (O := [.dead, .dead, .dead, .box [.zs, .zs], .box [.zs, .zs], .dead, .vec 5 (wB.map blkP), .vec 4 (wV.map vtP), .map (entsOf idP (fun v => .p (.int .i64 v)) sm), .map (entsOf vtP (fun v => .p (.bool v)) hm), .box [.vec 5 6 (wB.map blkP).length 0 (wB.map blkP).length, .vec 4 7 (wV.map vtP).length 0 (wV.map vtP).length, .map 8, .map 9, .p (.int .i64 upto), .p (.bool v2.2)], .dead, .dead, .dead, .vec 5 (lB.map blkP), .vec 4 (lV.map vtP), .box [.vec 5 14 n0 0 k0, .vec 4 15 n1 0 k1], .box [.p (.int .i64 x.From), .p (.int .i64 x.Slot), .p (.int .u64 x.Head.1), .p (.int .u64 x.Head.2)]]) ?_ ?_
      · have hr := hb_v2
        refine LW.seq ?_
        refine LW.region ?_
        refine LOps.st rfl rfl rfl (LOp.move rfl rfl) ?_
        refine LOps.st rfl rfl rfl (LOp.not rfl rfl) ?_
        refine LOps.st rfl rfl rfl (LOp.assign rfl rfl) ?_
        refine LOps.nil ?_
        refine thn_n ?_
        refine LW.cond rfl (fun (g4 : (!((findE sm x.Head).isSome)) = true) => ?_) (fun (g4 : (!((findE sm x.Head).isSome)) = false) => ?_)
        · -- g4 is True
          have hr := ite_t g4 hr
          refine LW.skip ?_
          refine thn_n ?_
          obtain rfl := Option.some.inj hr
          exact Weak.of 18 ⟨rfl, rfl, rfl, rfl, trivial⟩ rfl rfl rfl (lowObjs_cons rfl (lowObjs_cons rfl (lowObjs_cons rfl (lowObjs_cons rfl (lowObjs_cons rfl (lowObjs_cons rfl (lowObjs_cons rfl (lowObjs_cons rfl (lowObjs_cons (entsLow (fun _ => rfl) _) (lowObjs_cons (entsLow (fun _ => rfl) _) (lowObjs_cons rfl (lowObjs_cons rfl (lowObjs_cons rfl (lowObjs_cons rfl (lowObjs_cons rfl (lowObjs_cons rfl (lowObjs_cons rfl (lowObjs_cons rfl rfl))))))))))))))))))
        · -- g4 is False
          have hr := ite_f g4 hr
          refine LW.seq ?_
          refine LW.draw (by kernel_rfl) (by kernel_rfl) ?_
          refine LO.st rfl rfl rfl (LOp.fieldAddr rfl rfl ft82_1) ?_
          refine LO.st rfl rfl rfl (LOp.load rfl rfl rfl vt3 rfl rfl) ?_
          refine LO.st rfl rfl rfl (LOp.move rfl rfl) ?_
          refine LO.st rfl rfl rfl (LOp.nilCheck rfl rfl) ?_
          refine LO.st rfl rfl rfl (LOp.fieldAddr rfl rfl ft149_3) ?_
          refine LO.st rfl rfl rfl (LOp.load rfl rfl rfl vt3 rfl rfl) ?_
          refine LO.st rfl rfl rfl (LOp.bin rfl rfl rfl rfl) ?_
          refine LO.st rfl rfl rfl (LOp.assign rfl rfl) ?_
          refine LO.nil ?_
          refine thn_n ?_
          refine LW.cond rfl (fun (g5 : (decide (x.Slot > upto)) = true) => ?_) (fun (g5 : (decide (x.Slot > upto)) = false) => ?_)
          · -- g5 is True
            have hr := ite_t g5 hr
            refine LW.skip ?_
            refine thn_n ?_
            obtain rfl := Option.some.inj hr
            exact Weak.of 18 ⟨rfl, rfl, rfl, rfl, trivial⟩ rfl rfl rfl (lowObjs_cons rfl (lowObjs_cons rfl (lowObjs_cons rfl (lowObjs_cons rfl (lowObjs_cons rfl (lowObjs_cons rfl (lowObjs_cons rfl (lowObjs_cons rfl (lowObjs_cons (entsLow (fun _ => rfl) _) (lowObjs_cons (entsLow (fun _ => rfl) _) (lowObjs_cons rfl (lowObjs_cons rfl (lowObjs_cons rfl (lowObjs_cons rfl (lowObjs_cons rfl (lowObjs_cons rfl (lowObjs_cons rfl (lowObjs_cons rfl rfl))))))))))))))))))
          · -- g5 is False
            have hr := ite_f g5 hr
            refine LW.region ?_
            refine LOps.st rfl rfl rfl (LOp.move rfl rfl) ?_
            refine LOps.st rfl rfl rfl (LOp.move rfl rfl) ?_
            refine LOps.st rfl rfl rfl (LOp.nilCheck rfl rfl) ?_
            refine LOps.st rfl rfl rfl (LOp.fieldAddr rfl rfl ft149_0) ?_
            refine LOps.st rfl rfl rfl (LOp.fieldAddr rfl rfl ft75_1) ?_
            refine LOps.st rfl rfl rfl (LOp.load rfl rfl rfl vt68 rfl rfl) ?_
            refine LOps.st rfl rfl rfl (LOp.lenVM rfl rfl rfl (by kernel_rfl)) ?_
            obtain ⟨v3, h_v3, hr⟩ := bind_get hr
            refine LOps.st rfl rfl rfl (LOp.call rfl rfl rfl (by kernel_rfl) (LC.pre (cF159 h_v3) rfl (lowObjs_cons rfl (lowObjs_cons rfl (lowObjs_cons rfl (lowObjs_cons rfl (lowObjs_cons rfl (lowObjs_cons rfl (lowObjs_cons rfl (lowObjs_cons rfl (lowObjs_cons (entsLow (fun _ => rfl) _) (lowObjs_cons (entsLow (fun _ => rfl) _) (lowObjs_cons rfl (lowObjs_cons rfl (lowObjs_cons rfl (lowObjs_cons rfl (lowObjs_cons rfl (lowObjs_cons rfl (lowObjs_cons rfl rfl))))))))))))))))) rfl)) ?_
            refine LOps.st rfl rfl rfl (LOp.not rfl rfl) ?_
            refine LOps.st rfl rfl rfl (LOp.assign rfl rfl) ?_
            refine LOps.nil ?_
            refine thn_n ?_
            obtain rfl := Option.some.inj hr
            exact Weak.of 18 ⟨rfl, rfl, rfl, rfl, trivial⟩ rfl rfl rfl (lowObjs_cons rfl (lowObjs_cons rfl (lowObjs_cons rfl (lowObjs_cons rfl (lowObjs_cons rfl (lowObjs_cons rfl (lowObjs_cons rfl (lowObjs_cons rfl (lowObjs_cons (entsLow (fun _ => rfl) _) (lowObjs_cons (entsLow (fun _ => rfl) _) (lowObjs_cons rfl (lowObjs_cons rfl (lowObjs_cons rfl (lowObjs_cons rfl (lowObjs_cons rfl (lowObjs_cons rfl (lowObjs_cons rfl (lowObjs_cons rfl rfl))))))))))))))))))
      · have hr := ho_v2
        clear hb_v2
        refine LW.cond rfl (fun (g6 : v2.1 = true) => ?_) (fun (g6 : v2.1 = false) => ?_)
        · -- g6 is True
          have hr := ite_t g6 hr
          refine LW.seq ?_
          refine LW.region ?_
          refine LOps.st rfl rfl rfl (LOp.assign rfl rfl) ?_
          refine LOps.nil ?_
          refine thn_n ?_
          refine LW.ret ?_
          refine inBlk_r ?_
          refine thn_r ?_
          obtain rfl := Option.some.inj hr
          refine fin_retW (env' := [(4, .p (.bool false))]) (H' := [.dead, .dead, .dead, .box [.zs, .zs], .box [.zs, .zs], .dead, .vec 5 (wB.map blkP), .vec 4 (wV.map vtP), .map (entsOf idP (fun v => .p (.int .i64 v)) sm), .map (entsOf vtP (fun v => .p (.bool v)) hm), .box [.vec 5 6 (wB.map blkP).length 0 (wB.map blkP).length, .vec 4 7 (wV.map vtP).length 0 (wV.map vtP).length, .map 8, .map 9, .p (.int .i64 upto), .p (.bool v2.2)], .dead, .dead, .dead, .vec 5 (lB.map blkP), .vec 4 (lV.map vtP), .box [.vec 5 14 n0 0 k0, .vec 4 15 n1 0 k1]]) (Weak.of 17 ⟨rfl, trivial⟩ rfl rfl rfl (lowObjs_cons rfl (lowObjs_cons rfl (lowObjs_cons rfl (lowObjs_cons rfl (lowObjs_cons rfl (lowObjs_cons rfl (lowObjs_cons rfl (lowObjs_cons rfl (lowObjs_cons (entsLow (fun _ => rfl) _) (lowObjs_cons (entsLow (fun _ => rfl) _) (lowObjs_cons rfl (lowObjs_cons rfl (lowObjs_cons rfl (lowObjs_cons rfl (lowObjs_cons rfl (lowObjs_cons rfl (lowObjs_cons rfl rfl)))))))))))))))))) (.one (.tmp rfl)) ?_
          exact ⟨rfl, rfl⟩
        · -- g6 is False
          have hr := ite_f g6 hr
          refine LW.skip ?_
          refine inBlk_n ?_
          refine thn_n ?_
          refine LW.seq ?_
          refine LW.drawW (by kernel_rfl) (by kernel_rfl) ?_
          refine LF.st (F := []) (s := none) rfl rfl rfl (fun H _ => LOp.move rfl rfl) rfl ?_
          refine LF.st (F := []) (s := none) rfl rfl rfl (fun H _ => LOp.move rfl rfl) rfl ?_
          refine LF.st (F := []) (s := none) rfl rfl rfl (fun H _ => LOp.nilCheck rfl rfl) rfl ?_
          refine LF.st (F := []) (s := none) rfl rfl rfl (fun H _ => LOp.fieldAddr rfl rfl ft149_2) rfl ?_
          refine LF.st rfl rfl rfl (LAt.load rfl rfl rfl vt147 rfl rfl) rfl ?_
          refine LF.st rfl rfl rfl (LAt.load rfl rfl rfl vt82 rfl rfl) rfl ?_
          refine LF.st (F := []) (s := none) rfl rfl rfl (fun H _ => LOp.move rfl rfl) rfl ?_
          refine LF.st (F := []) (s := none) rfl rfl rfl (fun H _ => LOp.nilCheck rfl rfl) rfl ?_
          refine LF.st (F := []) (s := none) rfl rfl rfl (fun H _ => LOp.fieldAddr rfl rfl ft149_0) rfl ?_
          refine LF.st (F := []) (s := none) rfl rfl rfl (fun H _ => LOp.fieldAddr rfl rfl ft75_1) rfl ?_
          refine LF.st rfl rfl rfl (LAt.load rfl rfl rfl vt68 rfl rfl) rfl ?_
          refine LF.st rfl rfl rfl (LAt.load rfl rfl rfl vt82 rfl rfl) rfl ?_
          refine LF.st (F := []) (s := none) rfl rfl rfl (fun H _ => LOp.buildSlice rfl st68 rfl rfl rfl rfl rfl) rfl ?_
          obtain ⟨q1, hr⟩ := grd_get hr
          refine LF.st rfl rfl rfl (LAt.appendX vtP wV [x] rfl rfl rfl rfl rfl st68 q1) rfl ?_
          refine LF.st (F := []) (s := none) rfl rfl rfl (fun H _ => LOp.nilCheck rfl rfl) rfl ?_
          refine LF.st (F := []) (s := none) rfl rfl rfl (fun H _ => LOp.fieldAddr rfl rfl ft149_0) rfl ?_
          refine LF.st (F := []) (s := none) rfl rfl rfl (fun H _ => LOp.fieldAddr rfl rfl ft75_1) rfl ?_
          refine LF.st rfl rfl rfl (LAt.store rfl rfl rfl rfl vt68 rfl rfl rfl) rfl ?_
          obtain ⟨q2, hr⟩ := grd_get hr
          refine LF.st rfl rfl rfl (LAt.mapEntryX (f := vtP) (g := (fun v => .p (.bool v))) x false vtKey rfl rfl rfl rfl mt147 zl4 rfl q2) rfl ?_
          refine LF.st (F := []) (s := none) rfl rfl rfl (fun H _ => LOp.extract rfl rfl rfl) rfl ?_
          refine LF.st rfl rfl rfl (LAt.entryStoreX (f := vtP) (g := (fun v => .p (.bool v))) (m := hm) x ((findE hm x).getD false) true vtKey rfl rfl rfl rfl rfl rfl) rfl ?_
          refine LF.nil ⟨by kernel_rfl, ?_⟩
          refine thn_n ?_
          refine LW.seq ?_
          refine LW.region ?_
          refine LOps.st rfl rfl rfl (LOp.assign rfl rfl) ?_
          refine LOps.nil ?_
          refine thn_n ?_
          refine LW.ret ?_
          obtain rfl := Option.some.inj hr
          refine fin_retW (env' := [(4, .p (.bool true))]) (H' := [.dead, .dead, .dead, .box [.zs, .zs], .box [.zs, .zs], .dead, .vec 5 (wB.map blkP), .vec 4 ((wV ++ [x]).map vtP), .map (entsOf idP (fun v => .p (.int .i64 v)) sm), .map (entsOf vtP (fun v => .p (.bool v)) (setE hm x true)), .box [.vec 5 6 (wB.map blkP).length 0 (wB.map blkP).length, .vec 4 7 ((wV ++ [x]).map vtP).length 0 ((wV ++ [x]).map vtP).length, .map 8, .map 9, .p (.int .i64 upto), .p (.bool v2.2)], .dead, .dead, .dead, .vec 5 (lB.map blkP), .vec 4 (lV.map vtP), .box [.vec 5 14 n0 0 k0, .vec 4 15 n1 0 k1]]) (Weak.of 17 ⟨rfl, trivial⟩ rfl rfl rfl (lowObjs_cons rfl (lowObjs_cons rfl (lowObjs_cons rfl (lowObjs_cons rfl (lowObjs_cons rfl (lowObjs_cons rfl (lowObjs_cons rfl (lowObjs_cons rfl (lowObjs_cons (entsLow (fun _ => rfl) _) (lowObjs_cons (entsLow (fun _ => rfl) _) (lowObjs_cons rfl (lowObjs_cons rfl (lowObjs_cons rfl (lowObjs_cons rfl (lowObjs_cons rfl (lowObjs_cons rfl (lowObjs_cons rfl rfl)))))))))))))))))) (.one (.tmp rfl)) ?_
          exact ⟨rfl, rfl⟩
structure F160_L1 where
  t8 : Int
  o6 : List Bk
  o8 : List (ID × Int)
  o10_5 : Bool
def F160_s1 (lB : List Bk) (kk : Nat) (upto : Int) (x1 : F160_L1) : Option (F160_L1 ⊕ (F160_L1 ⊕ (Int × List Bk × List (ID × Int) × Bool))) :=
  bif decide (x1.t8 < (kk : Int)) then
    (ix (lB.take kk) x1.t8).bind fun y1 =>
    (F135 y1 x1.o6 x1.o8 upto x1.o10_5).bind fun v2 =>
    bif v2.1 then
      some (.inr (.inr (x1.t8, v2.2.1, v2.2.2.1, v2.2.2.2)))
    else
      some (.inl (F160_L1.mk (IntKind.i64.wrap (x1.t8 + 1)) v2.2.1 v2.2.2.1 v2.2.2.2))
  else
    some (.inr (.inl (F160_L1.mk x1.t8 x1.o6 x1.o8 x1.o10_5)))
def F160 (lB : List Bk) (kk : Nat) (wB : List Bk) (sm : List (ID × Int)) (upto : Int) (full : Bool) : Option (Int × List Bk × List (ID × Int) × Bool) :=
  (iter (F160_s1 lB kk upto) big (F160_L1.mk 0 wB sm full)).bind fun b_v1 => Sum.elim (fun v1 =>
    some ((-1), v1.o6, v1.o8, v1.o10_5)) some b_v1
set_option maxRecDepth 100000 in
theorem cF160 {lB : List Bk} {kk : Nat} {wB : List Bk} {wV : List Vt} {sm : List (ID × Int)} {hm : List (Vt × Bool)} {upto : Int} {full : Bool} {lV : List Vt} {n0 : Nat} {k0 : Nat} {n1 : Nat} {k1 : Nat} {r_ : Int × List Bk × List (ID × Int) × Bool} (hr : F160 lB kk wB sm upto full = some r_) : LC Try.prog 160 [.vec 5 14 (lB.map blkP).length 0 kk, .fn 135 [.ptr 10 0] []] [.dead, .dead, .dead, .box [.zs, .zs], .box [.zs, .zs], .dead, .vec 5 (wB.map blkP), .vec 4 (wV.map vtP), .map (entsOf idP (fun v => .p (.int .i64 v)) sm), .map (entsOf vtP (fun v => .p (.bool v)) hm), .box [.vec 5 6 (wB.map blkP).length 0 (wB.map blkP).length, .vec 4 7 (wV.map vtP).length 0 (wV.map vtP).length, .map 8, .map 9, .p (.int .i64 upto), .p (.bool full)], .dead, .dead, .dead, .vec 5 (lB.map blkP), .vec 4 (lV.map vtP), .box [.vec 5 14 n0 0 k0, .vec 4 15 n1 0 k1]] (Is (.p (.int .i64 r_.1)) [.dead, .dead, .dead, .box [.zs, .zs], .box [.zs, .zs], .dead, .vec 5 (r_.2.1.map blkP), .vec 4 (wV.map vtP), .map (entsOf idP (fun v => .p (.int .i64 v)) r_.2.2.1), .map (entsOf vtP (fun v => .p (.bool v)) hm), .box [.vec 5 6 (r_.2.1.map blkP).length 0 (r_.2.1.map blkP).length, .vec 4 7 (wV.map vtP).length 0 (wV.map vtP).length, .map 8, .map 9, .p (.int .i64 upto), .p (.bool r_.2.2.2)], .dead, .dead, .dead, .vec 5 (lB.map blkP), .vec 4 (lV.map vtP), .box [.vec 5 14 n0 0 k0, .vec 4 15 n1 0 k1]]) := by
  refine LC.start Try.func160 rfl rfl rfl ?_
  unfold F160 at hr
  refine LW.seq ?_
  refine LW.region ?_
  refine LOps.st rfl rfl rfl (LOp.assign rfl rfl) ?_
  refine LOps.nil ?_
  refine thn_n ?_
  refine LW.seq ?_
  refine LW.seq ?_
  refine LW.region ?_
  refine LOps.st rfl rfl rfl (LOp.move rfl rfl) ?_
  refine LOps.st rfl rfl rfl (LOp.lenVP rfl rfl rfl (by kernel_rfl)) ?_
  refine LOps.st rfl rfl rfl (LOp.move rfl rfl) ?_
  refine LOps.nil ?_
  refine thn_n ?_
  obtain ⟨b_v1, hb_v1, ho_v1⟩ := bind_get hr
  clear hr
  refine LW.tailB (b := b_v1) (E := fun v1 => [(4, .p (.int .i64 0))]) (O := fun v1 => [.dead, .dead, .dead, .box [.zs, .zs], .box [.zs, .zs], .dead, .vec 5 (v1.o6.map blkP), .vec 4 (wV.map vtP), .map (entsOf idP (fun v => .p (.int .i64 v)) v1.o8), .map (entsOf vtP (fun v => .p (.bool v)) hm), .box [.vec 5 6 (v1.o6.map blkP).length 0 (v1.o6.map blkP).length, .vec 4 7 (wV.map vtP).length 0 (wV.map vtP).length, .map 8, .map 9, .p (.int .i64 upto), .p (.bool v1.o10_5)], .dead, .dead, .dead, .vec 5 (lB.map blkP), .vec 4 (lV.map vtP), .box [.vec 5 14 n0 0 k0, .vec 4 15 n1 0 k1]]) ?_ (fun v1 e_v1 env_v1 H_v1 hw_v1 => ?_)
  · refine LW.block ?_
    refine LW.iterB (E := fun x1 : F160_L1 => [(0, .vec 5 14 (lB.map blkP).length 0 kk), (1, .fn 135 [.ptr 10 0] []), (4, .p (.int .i64 0)), (7, .p (.int .i64 (kk : Int))), (8, .p (.int .i64 x1.t8))]) (O := fun x1 => [.dead, .dead, .dead, .box [.zs, .zs], .box [.zs, .zs], .dead, .vec 5 (x1.o6.map blkP), .vec 4 (wV.map vtP), .map (entsOf idP (fun v => .p (.int .i64 v)) x1.o8), .map (entsOf vtP (fun v => .p (.bool v)) hm), .box [.vec 5 6 (x1.o6.map blkP).length 0 (x1.o6.map blkP).length, .vec 4 7 (wV.map vtP).length 0 (wV.map vtP).length, .map 8, .map 9, .p (.int .i64 upto), .p (.bool x1.o10_5)], .dead, .dead, .dead, .vec 5 (lB.map blkP), .vec 4 (lV.map vtP), .box [.vec 5 14 n0 0 k0, .vec 4 15 n1 0 k1]]) hb_v1 (Weak.of 17 ⟨rfl, rfl, rfl, rfl, rfl, trivial⟩ rfl rfl rfl (lowObjs_cons rfl (lowObjs_cons rfl (lowObjs_cons rfl (lowObjs_cons rfl (lowObjs_cons rfl (lowObjs_cons rfl (lowObjs_cons rfl (lowObjs_cons rfl (lowObjs_cons (entsLow (fun _ => rfl) _) (lowObjs_cons (entsLow (fun _ => rfl) _) (lowObjs_cons rfl (lowObjs_cons rfl (lowObjs_cons rfl (lowObjs_cons rfl (lowObjs_cons rfl (lowObjs_cons rfl (lowObjs_cons rfl rfl)))))))))))))))))) (fun x1 z_x1 hr hb_x1 => ?_)
    unfold F160_s1 at hr
    refine LW.seq ?_
    refine LW.region ?_
    refine LOps.st rfl rfl rfl (LOp.bin rfl rfl rfl rfl) ?_
    refine LOps.nil ?_
    refine thn_n ?_
    refine LW.seq ?_
    refine LW.cond rfl (fun (g1 : (decide (x1.t8 < (kk : Int))) = true) => ?_) (fun (g1 : (decide (x1.t8 < (kk : Int))) = false) => ?_)
    · -- g1 is True
      have hr := ite_t g1 hr
      refine LW.skip ?_
      refine thn_n ?_
      refine LW.seq ?_
      refine LW.block ?_
      refine LW.seq ?_
      refine LW.region ?_
      refine LOps.st rfl rfl rfl (LOp.move rfl rfl) ?_
      refine LOps.st rfl rfl rfl (LOp.assign rfl rfl) ?_
      refine LOps.nil ?_
      refine thn_n ?_
      refine LW.seq ?_
      refine LW.region ?_
      refine LOps.st rfl rfl rfl (LOp.move rfl rfl) ?_
      refine LOps.st rfl rfl rfl (LOp.move rfl rfl) ?_
      refine LOps.st rfl rfl rfl (LOp.move rfl rfl) ?_
      obtain ⟨y1, h_y1, hr⟩ := bind_get hr
      refine LOps.st rfl rfl rfl (LOp.indexAddrVP rfl rfl rfl rfl st27 h_y1) ?_
      refine LOps.st rfl rfl rfl (LOp.loadVX rfl rfl rfl vt42 (ix_take h_y1).1 rfl rfl rfl rfl) ?_
      obtain ⟨v2, h_v2, hr⟩ := bind_get hr
      refine LOps.st rfl rfl rfl (LOp.call rfl rfl rfl (by kernel_rfl) (cF135 h_v2)) ?_
      refine LOps.nil ?_
      refine thn_n ?_
      refine LW.cond rfl (fun (g2 : v2.1 = true) => ?_) (fun (g2 : v2.1 = false) => ?_)
      · -- g2 is True
        have hr := ite_t g2 hr
        refine LW.seq ?_
        refine LW.region ?_
        refine LOps.st rfl rfl rfl (LOp.move rfl rfl) ?_
        refine LOps.st rfl rfl rfl (LOp.assign rfl rfl) ?_
        refine LOps.nil ?_
        refine thn_n ?_
        refine LW.ret ?_
        refine inBlk_r ?_
        refine thn_r ?_
        refine thn_r ?_
        refine inBlk_r ?_
        refine thn_r ?_
        refine thn_r ?_
        obtain rfl := Option.some.inj hr
        have hr := congrArg some (hb_x1 _ rfl)
        obtain rfl := Option.some.inj hr
        have hr := sum_r ho_v1
        obtain rfl := Option.some.inj hr
        refine fin_ret (.one (.tmp rfl)) ?_
        exact ⟨rfl, rfl⟩
      · -- g2 is False
        have hr := ite_f g2 hr
        refine LW.skip ?_
        refine inBlk_n ?_
        refine thn_n ?_
        refine LW.region ?_
        refine LOps.st rfl rfl rfl (LOp.bin rfl rfl rfl rfl) ?_
        refine LOps.st rfl rfl rfl (LOp.move rfl rfl) ?_
        refine LOps.nil ?_
        refine thn_n ?_
        obtain rfl := Option.some.inj hr
        exact ⟨_, rfl, Weak.of 17 ⟨rfl, rfl, rfl, rfl, rfl, trivial⟩ rfl rfl rfl (lowObjs_cons rfl (lowObjs_cons rfl (lowObjs_cons rfl (lowObjs_cons rfl (lowObjs_cons rfl (lowObjs_cons rfl (lowObjs_cons rfl (lowObjs_cons rfl (lowObjs_cons (entsLow (fun _ => rfl) _) (lowObjs_cons (entsLow (fun _ => rfl) _) (lowObjs_cons rfl (lowObjs_cons rfl (lowObjs_cons rfl (lowObjs_cons rfl (lowObjs_cons rfl (lowObjs_cons rfl (lowObjs_cons rfl rfl)))))))))))))))))⟩
    · -- g1 is False
      have hr := ite_f g1 hr
      refine LW.exit ?_
      refine thn_e ?_
      refine thn_e ?_
      refine inBlk_self ?_
      refine thn_n ?_
      obtain rfl := Option.some.inj hr
      have hr := congrArg some (hb_x1 _ rfl)
      obtain rfl := Option.some.inj hr
      exact ⟨_, rfl, Weak.of 17 ⟨rfl, trivial⟩ rfl rfl rfl (lowObjs_cons rfl (lowObjs_cons rfl (lowObjs_cons rfl (lowObjs_cons rfl (lowObjs_cons rfl (lowObjs_cons rfl (lowObjs_cons rfl (lowObjs_cons rfl (lowObjs_cons (entsLow (fun _ => rfl) _) (lowObjs_cons (entsLow (fun _ => rfl) _) (lowObjs_cons rfl (lowObjs_cons rfl (lowObjs_cons rfl (lowObjs_cons rfl (lowObjs_cons rfl (lowObjs_cons rfl (lowObjs_cons rfl rfl)))))))))))))))))⟩
  · obtain rfl := e_v1
    have hr := sum_l ho_v1
    clear hb_v1
    refine thn_n ?_
    refine LW.weak hw_v1 ?_
    refine LW.seq ?_
    refine LW.region ?_
    refine LOps.st rfl rfl rfl (LOp.assign rfl rfl) ?_
    refine LOps.nil ?_
    refine thn_n ?_
    refine LW.ret ?_
    obtain rfl := Option.some.inj hr
    refine fin_ret (.one (.tmp rfl)) ?_
    exact ⟨rfl, rfl⟩
structure F137_L1 where
  i : Int
  j : Int
  o6 : List Bk
  o8 : List (ID × Int)
  o10_5 : Bool
  o14 : List Bk
def F137_s1 (kk : Nat) (upto : Int) (x1 : F137_L1) : Option (F137_L1 ⊕ F137_L1) :=
  bif decide (x1.j < (kk : Int)) then
    (ix (x1.o14.take kk) x1.j).bind fun y1 =>
    (F135 y1 x1.o6 x1.o8 upto x1.o10_5).bind fun v3 =>
    bif !v3.1 then
      (ix (x1.o14.take kk) x1.i).bind fun _ =>
      some (.inl (F137_L1.mk (IntKind.i64.wrap (x1.i + 1)) (IntKind.i64.wrap (x1.j + 1)) v3.2.1 v3.2.2.1 v3.2.2.2 (x1.o14.set x1.i.toNat y1)))
    else
      some (.inl (F137_L1.mk x1.i (IntKind.i64.wrap (x1.j + 1)) v3.2.1 v3.2.2.1 v3.2.2.2 x1.o14))
  else
    some (.inr (F137_L1.mk x1.i x1.j x1.o6 x1.o8 x1.o10_5 x1.o14))
def F137 (lB : List Bk) (kk : Nat) (wB : List Bk) (sm : List (ID × Int)) (upto : Int) (full : Bool) : Option (Nat × List Bk × List Bk × List (ID × Int) × Bool) :=
  (F160 lB kk wB sm upto full).bind fun v1 =>
  bif v1.1 == (-1) then
    some (kk, lB, v1.2.1, v1.2.2.1, v1.2.2.2)
  else
    (iter (F137_s1 kk upto) big (F137_L1.mk v1.1 (IntKind.i64.wrap (v1.1 + 1)) v1.2.1 v1.2.2.1 v1.2.2.2 lB)).bind fun v2 =>
    bif decide (0 ≤ v2.i ∧ v2.i ≤ (kk : Int)) then
      bif decide (v2.i.toNat + (kk - v2.i.toNat) ≤ v2.o14.length) then
        bif decide (0 ≤ v2.i ∧ v2.i ≤ (kk : Int)) then
          some (v2.i.toNat, clrL v2.o14 v2.i.toNat (kk - v2.i.toNat) (Bk.mk 0 0 (0, 0) 0), v2.o6, v2.o8, v2.o10_5)
        else none
      else none
    else none
set_option maxRecDepth 100000 in
theorem cF137 {lB : List Bk} {kk : Nat} {wB : List Bk} {wV : List Vt} {sm : List (ID × Int)} {hm : List (Vt × Bool)} {upto : Int} {full : Bool} {lV : List Vt} {n0 : Nat} {k0 : Nat} {n1 : Nat} {k1 : Nat} {r_ : Nat × List Bk × List Bk × List (ID × Int) × Bool} (hr : F137 lB kk wB sm upto full = some r_) : LC Try.prog 137 [.vec 5 14 (lB.map blkP).length 0 kk, .fn 135 [.ptr 10 0] []] [.dead, .dead, .dead, .box [.zs, .zs], .box [.zs, .zs], .dead, .vec 5 (wB.map blkP), .vec 4 (wV.map vtP), .map (entsOf idP (fun v => .p (.int .i64 v)) sm), .map (entsOf vtP (fun v => .p (.bool v)) hm), .box [.vec 5 6 (wB.map blkP).length 0 (wB.map blkP).length, .vec 4 7 (wV.map vtP).length 0 (wV.map vtP).length, .map 8, .map 9, .p (.int .i64 upto), .p (.bool full)], .dead, .dead, .dead, .vec 5 (lB.map blkP), .vec 4 (lV.map vtP), .box [.vec 5 14 n0 0 k0, .vec 4 15 n1 0 k1]] (Is (.vec 5 14 (r_.2.1.map blkP).length 0 r_.1) [.dead, .dead, .dead, .box [.zs, .zs], .box [.zs, .zs], .dead, .vec 5 (r_.2.2.1.map blkP), .vec 4 (wV.map vtP), .map (entsOf idP (fun v => .p (.int .i64 v)) r_.2.2.2.1), .map (entsOf vtP (fun v => .p (.bool v)) hm), .box [.vec 5 6 (r_.2.2.1.map blkP).length 0 (r_.2.2.1.map blkP).length, .vec 4 7 (wV.map vtP).length 0 (wV.map vtP).length, .map 8, .map 9, .p (.int .i64 upto), .p (.bool r_.2.2.2.2)], .dead, .dead, .dead, .vec 5 (r_.2.1.map blkP), .vec 4 (lV.map vtP), .box [.vec 5 14 n0 0 k0, .vec 4 15 n1 0 k1]]) := by
  refine LC.start Try.func137 rfl rfl rfl ?_
  unfold F137 at hr
  refine LW.seq ?_
  refine LW.region ?_
  refine LOps.st rfl rfl rfl (LOp.assign rfl rfl) ?_
  refine LOps.nil ?_
  refine thn_n ?_
  refine LW.seq ?_
  refine LW.region ?_
  refine LOps.st rfl rfl rfl (LOp.move rfl rfl) ?_
  refine LOps.st rfl rfl rfl (LOp.move rfl rfl) ?_
  obtain ⟨v1, h_v1, hr⟩ := bind_get hr
  refine LOps.st rfl rfl rfl (LOp.call rfl rfl rfl (by kernel_rfl) (cF160 h_v1)) ?_
  refine LOps.st rfl rfl rfl (LOp.assign rfl rfl) ?_
  refine LOps.nil ?_
  refine thn_n ?_
  refine LW.seq ?_
  refine LW.seq ?_
  refine LW.region ?_
  refine LOps.st rfl rfl rfl (LOp.move rfl rfl) ?_
  refine LOps.st rfl rfl rfl (LOp.bin rfl rfl rfl rfl) ?_
  refine LOps.nil ?_
  refine thn_n ?_
  refine LW.cond rfl (fun (g1 : (v1.1 == (-1)) = true) => ?_) (fun (g1 : (v1.1 == (-1)) = false) => ?_)
  · -- g1 is True
    have hr := ite_t g1 hr
    refine LW.seq ?_
    refine LW.region ?_
    refine LOps.st rfl rfl rfl (LOp.move rfl rfl) ?_
    refine LOps.st rfl rfl rfl (LOp.assign rfl rfl) ?_
    refine LOps.nil ?_
    refine thn_n ?_
    refine LW.ret ?_
    refine thn_r ?_
    obtain rfl := Option.some.inj hr
    refine fin_ret (.one (.tmp rfl)) ?_
    exact ⟨rfl, rfl⟩
  · -- g1 is False
    have hr := ite_f g1 hr
    refine LW.skip ?_
    refine thn_n ?_
    refine LW.seq ?_
    refine LW.seq ?_
    refine LW.region ?_
    refine LOps.st rfl rfl rfl (LOp.move rfl rfl) ?_
    refine LOps.st rfl rfl rfl (LOp.bin rfl rfl rfl rfl) ?_
    refine LOps.st rfl rfl rfl (LOp.assign rfl rfl) ?_
    refine LOps.nil ?_
    refine thn_n ?_
    obtain ⟨v2, hb_v2, ho_v2⟩ := bind_get hr
    clear hr
    refine LW.tail (E := [(0, .vec 5 14 (v2.o14.map blkP).length 0 kk), (4, .zs), (5, .p (.int .i64 v2.i))]) (O := [.dead, .dead, .dead, .box [.zs, .zs], .box [.zs, .zs], .dead, .vec 5 (v2.o6.map blkP), .vec 4 (wV.map vtP), .map (entsOf idP (fun v => .p (.int .i64 v)) v2.o8), .map (entsOf vtP (fun v => .p (.bool v)) hm), .box [.vec 5 6 (v2.o6.map blkP).length 0 (v2.o6.map blkP).length, .vec 4 7 (wV.map vtP).length 0 (wV.map vtP).length, .map 8, .map 9, .p (.int .i64 upto), .p (.bool v2.o10_5)], .dead, .dead, .dead, .vec 5 (v2.o14.map blkP), .vec 4 (lV.map vtP), .box [.vec 5 14 n0 0 k0, .vec 4 15 n1 0 k1]]) ?_ (fun env_v2 H_v2 hw_v2 => ?_)
    · refine LW.block ?_
      refine LW.iterB (E := fun x1 : F137_L1 => [(0, .vec 5 14 (x1.o14.map blkP).length 0 kk), (1, .fn 135 [.ptr 10 0] []), (4, .zs), (5, .p (.int .i64 x1.i)), (6, .p (.int .i64 x1.j))]) (O := fun x1 => [.dead, .dead, .dead, .box [.zs, .zs], .box [.zs, .zs], .dead, .vec 5 (x1.o6.map blkP), .vec 4 (wV.map vtP), .map (entsOf idP (fun v => .p (.int .i64 v)) x1.o8), .map (entsOf vtP (fun v => .p (.bool v)) hm), .box [.vec 5 6 (x1.o6.map blkP).length 0 (x1.o6.map blkP).length, .vec 4 7 (wV.map vtP).length 0 (wV.map vtP).length, .map 8, .map 9, .p (.int .i64 upto), .p (.bool x1.o10_5)], .dead, .dead, .dead, .vec 5 (x1.o14.map blkP), .vec 4 (lV.map vtP), .box [.vec 5 14 n0 0 k0, .vec 4 15 n1 0 k1]]) hb_v2 (Weak.of 17 ⟨rfl, rfl, rfl, rfl, rfl, trivial⟩ rfl rfl rfl (lowObjs_cons rfl (lowObjs_cons rfl (lowObjs_cons rfl (lowObjs_cons rfl (lowObjs_cons rfl (lowObjs_cons rfl (lowObjs_cons rfl (lowObjs_cons rfl (lowObjs_cons (entsLow (fun _ => rfl) _) (lowObjs_cons (entsLow (fun _ => rfl) _) (lowObjs_cons rfl (lowObjs_cons rfl (lowObjs_cons rfl (lowObjs_cons rfl (lowObjs_cons rfl (lowObjs_cons rfl (lowObjs_cons rfl rfl)))))))))))))))))) (fun x1 z_x1 hr hb_x1 => ?_)
      unfold F137_s1 at hr
      refine LW.seq ?_
      refine LW.seq ?_
      refine LW.region ?_
      refine LOps.st rfl rfl rfl (LOp.move rfl rfl) ?_
      refine LOps.st rfl rfl rfl (LOp.move rfl rfl) ?_
      refine LOps.st rfl rfl rfl (LOp.lenVP rfl rfl rfl (by kernel_rfl)) ?_
      refine LOps.st rfl rfl rfl (LOp.bin rfl rfl rfl rfl) ?_
      refine LOps.nil ?_
      refine thn_n ?_
      refine LW.cond rfl (fun (g2 : (decide (x1.j < (kk : Int))) = true) => ?_) (fun (g2 : (decide (x1.j < (kk : Int))) = false) => ?_)
      · -- g2 is True
        have hr := ite_t g2 hr
        refine LW.skip ?_
        refine thn_n ?_
        refine LW.seq ?_
        refine LW.block ?_
        refine LW.seq ?_
        refine LW.region ?_
        refine LOps.st rfl rfl rfl (LOp.move rfl rfl) ?_
        refine LOps.st rfl rfl rfl (LOp.move rfl rfl) ?_
        obtain ⟨y1, h_y1, hr⟩ := bind_get hr
        refine LOps.st rfl rfl rfl (LOp.indexAddrVP rfl rfl rfl rfl st27 h_y1) ?_
        refine LOps.st rfl rfl rfl (LOp.loadVX rfl rfl rfl vt42 (ix_take h_y1).1 rfl rfl rfl rfl) ?_
        refine LOps.st rfl rfl rfl (LOp.alloc rfl zt42 rfl rfl) ?_
        refine LOps.st rfl rfl rfl (LOp.store rfl rfl rfl rfl vt42 rfl rfl rfl rfl) ?_
        refine LOps.nil ?_
        refine thn_n ?_
        refine LW.seq ?_
        refine LW.region ?_
        refine LOps.st rfl rfl rfl (LOp.move rfl rfl) ?_
        refine LOps.st rfl rfl rfl (LOp.load rfl rfl rfl vt42 rfl rfl) ?_
        obtain ⟨v3, h_v3, hr⟩ := bind_get hr
        refine LOps.st rfl rfl rfl (LOp.call rfl rfl rfl (by kernel_rfl) (LC.pre (cF135 h_v3) rfl (lowObjs_cons rfl (lowObjs_cons rfl (lowObjs_cons rfl (lowObjs_cons rfl (lowObjs_cons rfl (lowObjs_cons rfl (lowObjs_cons rfl (lowObjs_cons rfl (lowObjs_cons (entsLow (fun _ => rfl) _) (lowObjs_cons (entsLow (fun _ => rfl) _) (lowObjs_cons rfl (lowObjs_cons rfl (lowObjs_cons rfl (lowObjs_cons rfl (lowObjs_cons rfl (lowObjs_cons rfl (lowObjs_cons rfl rfl))))))))))))))))) rfl)) ?_
        refine LOps.st rfl rfl rfl (LOp.not rfl rfl) ?_
        refine LOps.nil ?_
        refine thn_n ?_
        refine LW.cond rfl (fun (g3 : (!v3.1) = true) => ?_) (fun (g3 : (!v3.1) = false) => ?_)
        · -- g3 is True
          have hr := ite_t g3 hr
          refine LW.seq ?_
          refine LW.region ?_
          refine LOps.st rfl rfl rfl (LOp.move rfl rfl) ?_
          refine LOps.st rfl rfl rfl (LOp.move rfl rfl) ?_
          refine LOps.st rfl rfl rfl (LOp.load rfl rfl rfl vt42 rfl rfl) ?_
          obtain ⟨y2, h_y2, hr⟩ := bind_get hr
          refine LOps.st rfl rfl rfl (LOp.indexAddrVP rfl rfl rfl rfl st27 h_y2) ?_
          refine LOps.st rfl rfl rfl (LOp.storeVP (f := blkP) (l := x1.o14) y1 rfl rfl rfl rfl vt42 (fun _ => rfl) (ix_take h_y2).1 rfl rfl rfl rfl rfl rfl rfl) ?_
          refine LOps.nil ?_
          refine thn_n ?_
          refine LW.region ?_
          refine LOps.st rfl rfl rfl (LOp.move rfl rfl) ?_
          refine LOps.st rfl rfl rfl (LOp.bin rfl rfl rfl rfl) ?_
          refine LOps.st rfl rfl rfl (LOp.assign rfl rfl) ?_
          refine LOps.nil ?_
          refine inBlk_n ?_
          refine thn_n ?_
          refine LW.region ?_
          refine LOps.st rfl rfl rfl (LOp.move rfl rfl) ?_
          refine LOps.st rfl rfl rfl (LOp.bin rfl rfl rfl rfl) ?_
          refine LOps.st rfl rfl rfl (LOp.assign rfl rfl) ?_
          refine LOps.nil ?_
          refine thn_n ?_
          obtain rfl := Option.some.inj hr
          exact ⟨_, rfl, Weak.of 17 ⟨(pset (rfl)), rfl, rfl, rfl, rfl, trivial⟩ rfl rfl rfl (lowObjs_cons rfl (lowObjs_cons rfl (lowObjs_cons rfl (lowObjs_cons rfl (lowObjs_cons rfl (lowObjs_cons rfl (lowObjs_cons rfl (lowObjs_cons rfl (lowObjs_cons (entsLow (fun _ => rfl) _) (lowObjs_cons (entsLow (fun _ => rfl) _) (lowObjs_cons rfl (lowObjs_cons rfl (lowObjs_cons rfl (lowObjs_cons rfl (lowObjs_cons rfl (lowObjs_cons rfl (lowObjs_cons rfl rfl)))))))))))))))))⟩
        · -- g3 is False
          have hr := ite_f g3 hr
          refine LW.skip ?_
          refine inBlk_n ?_
          refine thn_n ?_
          refine LW.region ?_
          refine LOps.st rfl rfl rfl (LOp.move rfl rfl) ?_
          refine LOps.st rfl rfl rfl (LOp.bin rfl rfl rfl rfl) ?_
          refine LOps.st rfl rfl rfl (LOp.assign rfl rfl) ?_
          refine LOps.nil ?_
          refine thn_n ?_
          obtain rfl := Option.some.inj hr
          exact ⟨_, rfl, Weak.of 17 ⟨rfl, rfl, rfl, rfl, rfl, trivial⟩ rfl rfl rfl (lowObjs_cons rfl (lowObjs_cons rfl (lowObjs_cons rfl (lowObjs_cons rfl (lowObjs_cons rfl (lowObjs_cons rfl (lowObjs_cons rfl (lowObjs_cons rfl (lowObjs_cons (entsLow (fun _ => rfl) _) (lowObjs_cons (entsLow (fun _ => rfl) _) (lowObjs_cons rfl (lowObjs_cons rfl (lowObjs_cons rfl (lowObjs_cons rfl (lowObjs_cons rfl (lowObjs_cons rfl (lowObjs_cons rfl rfl)))))))))))))))))⟩
      · -- g2 is False
        have hr := ite_f g2 hr
        refine LW.exit ?_
        refine thn_e ?_
        refine thn_e ?_
        refine inBlk_self ?_
        refine thn_n ?_
        obtain rfl := Option.some.inj hr
        have hr := congrArg some (hb_x1 _ rfl)
        obtain rfl := Option.some.inj hr
        exact Weak.of 17 ⟨rfl, rfl, rfl, trivial⟩ rfl rfl rfl (lowObjs_cons rfl (lowObjs_cons rfl (lowObjs_cons rfl (lowObjs_cons rfl (lowObjs_cons rfl (lowObjs_cons rfl (lowObjs_cons rfl (lowObjs_cons rfl (lowObjs_cons (entsLow (fun _ => rfl) _) (lowObjs_cons (entsLow (fun _ => rfl) _) (lowObjs_cons rfl (lowObjs_cons rfl (lowObjs_cons rfl (lowObjs_cons rfl (lowObjs_cons rfl (lowObjs_cons rfl (lowObjs_cons rfl rfl)))))))))))))))))
    · have hr := ho_v2
      clear hb_v2
      refine thn_n ?_
      refine LW.weak hw_v2 ?_
      refine LW.seq ?_
      refine LW.region ?_
      refine LOps.st rfl rfl rfl (LOp.move rfl rfl) ?_
      refine LOps.st rfl rfl rfl (LOp.move rfl rfl) ?_
      obtain ⟨q1, hr⟩ := grd_get hr
      refine LOps.st rfl rfl rfl (LOp.sliceVLo rfl rfl rfl rfl st27 q1) ?_
      obtain ⟨q2, hr⟩ := grd_get hr
      refine LOps.st rfl rfl rfl (LOp.clearVP (f := blkP) (zs := [.int .i64 0, .int .i64 0, .int .u64 0, .int .u64 0, .int .u64 0]) (Bk.mk 0 0 (0, 0) 0) rfl rfl rfl st27 (fun _ => rfl) (by kernel_rfl) rfl q2 rfl) ?_
      refine LOps.nil ?_
      refine thn_n ?_
      refine LW.seq ?_
      refine LW.ent (Ent.vlen (t := 0) (n' := ((clrL v2.o14 v2.i.toNat (kk - v2.i.toNat) (Bk.mk 0 0 (0, 0) 0)).map blkP).length) rfl (clr_len q2)) ?_
      refine LW.region ?_
      refine LOps.st rfl rfl rfl (LOp.move rfl rfl) ?_
      refine LOps.st rfl rfl rfl (LOp.move rfl rfl) ?_
      obtain ⟨q3, hr⟩ := grd_get hr
      refine LOps.st rfl rfl rfl (LOp.sliceVHi rfl rfl rfl rfl st27 q3) ?_
      refine LOps.st rfl rfl rfl (LOp.assign rfl rfl) ?_
      refine LOps.nil ?_
      refine thn_n ?_
      refine LW.ret ?_
      obtain rfl := Option.some.inj hr
      refine fin_ret (.one (.tmp rfl)) ?_
      exact ⟨rfl, rfl⟩
structure F158_L1 where
  t8 : Int
  o7 : List Vt
  o9 : List (Vt × Bool)
  o10_5 : Bool
def F158_s1 (lV : List Vt) (kk : Nat) (sm : List (ID × Int)) (upto : Int) (x1 : F158_L1) : Option (F158_L1 ⊕ (F158_L1 ⊕ (Int × List Vt × List (Vt × Bool) × Bool))) :=
  bif decide (x1.t8 < (kk : Int)) then
    (ix (lV.take kk) x1.t8).bind fun y1 =>
    (F136 y1 x1.o7 sm x1.o9 upto x1.o10_5).bind fun v2 =>
    bif v2.1 then
      some (.inr (.inr (x1.t8, v2.2.1, v2.2.2.1, v2.2.2.2)))
    else
      some (.inl (F158_L1.mk (IntKind.i64.wrap (x1.t8 + 1)) v2.2.1 v2.2.2.1 v2.2.2.2))
  else
    some (.inr (.inl (F158_L1.mk x1.t8 x1.o7 x1.o9 x1.o10_5)))
def F158 (lV : List Vt) (kk : Nat) (wV : List Vt) (sm : List (ID × Int)) (hm : List (Vt × Bool)) (upto : Int) (full : Bool) : Option (Int × List Vt × List (Vt × Bool) × Bool) :=
  (iter (F158_s1 lV kk sm upto) big (F158_L1.mk 0 wV hm full)).bind fun b_v1 => Sum.elim (fun v1 =>
    some ((-1), v1.o7, v1.o9, v1.o10_5)) some b_v1
set_option maxRecDepth 100000 in
theorem cF158 {lV : List Vt} {kk : Nat} {wB : List Bk} {wV : List Vt} {sm : List (ID × Int)} {hm : List (Vt × Bool)} {upto : Int} {full : Bool} {lB : List Bk} {n0 : Nat} {k0 : Nat} {n1 : Nat} {k1 : Nat} {r_ : Int × List Vt × List (Vt × Bool) × Bool} (hr : F158 lV kk wV sm hm upto full = some r_) : LC Try.prog 158 [.vec 4 15 (lV.map vtP).length 0 kk, .fn 136 [.ptr 10 0] []] [.dead, .dead, .dead, .box [.zs, .zs], .box [.zs, .zs], .dead, .vec 5 (wB.map blkP), .vec 4 (wV.map vtP), .map (entsOf idP (fun v => .p (.int .i64 v)) sm), .map (entsOf vtP (fun v => .p (.bool v)) hm), .box [.vec 5 6 (wB.map blkP).length 0 (wB.map blkP).length, .vec 4 7 (wV.map vtP).length 0 (wV.map vtP).length, .map 8, .map 9, .p (.int .i64 upto), .p (.bool full)], .dead, .dead, .dead, .vec 5 (lB.map blkP), .vec 4 (lV.map vtP), .box [.vec 5 14 n0 0 k0, .vec 4 15 n1 0 k1]] (Is (.p (.int .i64 r_.1)) [.dead, .dead, .dead, .box [.zs, .zs], .box [.zs, .zs], .dead, .vec 5 (wB.map blkP), .vec 4 (r_.2.1.map vtP), .map (entsOf idP (fun v => .p (.int .i64 v)) sm), .map (entsOf vtP (fun v => .p (.bool v)) r_.2.2.1), .box [.vec 5 6 (wB.map blkP).length 0 (wB.map blkP).length, .vec 4 7 (r_.2.1.map vtP).length 0 (r_.2.1.map vtP).length, .map 8, .map 9, .p (.int .i64 upto), .p (.bool r_.2.2.2)], .dead, .dead, .dead, .vec 5 (lB.map blkP), .vec 4 (lV.map vtP), .box [.vec 5 14 n0 0 k0, .vec 4 15 n1 0 k1]]) := by
  refine LC.start Try.func158 rfl rfl rfl ?_
  unfold F158 at hr
  refine LW.seq ?_
  refine LW.region ?_
  refine LOps.st rfl rfl rfl (LOp.assign rfl rfl) ?_
  refine LOps.nil ?_
  refine thn_n ?_
  refine LW.seq ?_
  refine LW.seq ?_
  refine LW.region ?_
  refine LOps.st rfl rfl rfl (LOp.move rfl rfl) ?_
  refine LOps.st rfl rfl rfl (LOp.lenVP rfl rfl rfl (by kernel_rfl)) ?_
  refine LOps.st rfl rfl rfl (LOp.move rfl rfl) ?_
  refine LOps.nil ?_
  refine thn_n ?_
  obtain ⟨b_v1, hb_v1, ho_v1⟩ := bind_get hr
  clear hr
  refine LW.tailB (b := b_v1) (E := fun v1 => [(4, .p (.int .i64 0))]) (O := fun v1 => [.dead, .dead, .dead, .box [.zs, .zs], .box [.zs, .zs], .dead, .vec 5 (wB.map blkP), .vec 4 (v1.o7.map vtP), .map (entsOf idP (fun v => .p (.int .i64 v)) sm), .map (entsOf vtP (fun v => .p (.bool v)) v1.o9), .box [.vec 5 6 (wB.map blkP).length 0 (wB.map blkP).length, .vec 4 7 (v1.o7.map vtP).length 0 (v1.o7.map vtP).length, .map 8, .map 9, .p (.int .i64 upto), .p (.bool v1.o10_5)], .dead, .dead, .dead, .vec 5 (lB.map blkP), .vec 4 (lV.map vtP), .box [.vec 5 14 n0 0 k0, .vec 4 15 n1 0 k1]]) ?_ (fun v1 e_v1 env_v1 H_v1 hw_v1 => ?_)
  · refine LW.block ?_
    refine LW.iterB (E := fun x1 : F158_L1 => [(0, .vec 4 15 (lV.map vtP).length 0 kk), (1, .fn 136 [.ptr 10 0] []), (4, .p (.int .i64 0)), (7, .p (.int .i64 (kk : Int))), (8, .p (.int .i64 x1.t8))]) (O := fun x1 => [.dead, .dead, .dead, .box [.zs, .zs], .box [.zs, .zs], .dead, .vec 5 (wB.map blkP), .vec 4 (x1.o7.map vtP), .map (entsOf idP (fun v => .p (.int .i64 v)) sm), .map (entsOf vtP (fun v => .p (.bool v)) x1.o9), .box [.vec 5 6 (wB.map blkP).length 0 (wB.map blkP).length, .vec 4 7 (x1.o7.map vtP).length 0 (x1.o7.map vtP).length, .map 8, .map 9, .p (.int .i64 upto), .p (.bool x1.o10_5)], .dead, .dead, .dead, .vec 5 (lB.map blkP), .vec 4 (lV.map vtP), .box [.vec 5 14 n0 0 k0, .vec 4 15 n1 0 k1]]) hb_v1 (Weak.of 17 ⟨rfl, rfl, rfl, rfl, rfl, trivial⟩ rfl rfl rfl (lowObjs_cons rfl (lowObjs_cons rfl (lowObjs_cons rfl (lowObjs_cons rfl (lowObjs_cons rfl (lowObjs_cons rfl (lowObjs_cons rfl (lowObjs_cons rfl (lowObjs_cons (entsLow (fun _ => rfl) _) (lowObjs_cons (entsLow (fun _ => rfl) _) (lowObjs_cons rfl (lowObjs_cons rfl (lowObjs_cons rfl (lowObjs_cons rfl (lowObjs_cons rfl (lowObjs_cons rfl (lowObjs_cons rfl rfl)))))))))))))))))) (fun x1 z_x1 hr hb_x1 => ?_)
    unfold F158_s1 at hr
    refine LW.seq ?_
    refine LW.region ?_
    refine LOps.st rfl rfl rfl (LOp.bin rfl rfl rfl rfl) ?_
    refine LOps.nil ?_
    refine thn_n ?_
    refine LW.seq ?_
    refine LW.cond rfl (fun (g1 : (decide (x1.t8 < (kk : Int))) = true) => ?_) (fun (g1 : (decide (x1.t8 < (kk : Int))) = false) => ?_)
    · -- g1 is True
      have hr := ite_t g1 hr
      refine LW.skip ?_
      refine thn_n ?_
      refine LW.seq ?_
      refine LW.block ?_
      refine LW.seq ?_
      refine LW.region ?_
      refine LOps.st rfl rfl rfl (LOp.move rfl rfl) ?_
      refine LOps.st rfl rfl rfl (LOp.assign rfl rfl) ?_
      refine LOps.nil ?_
      refine thn_n ?_
      refine LW.seq ?_
      refine LW.region ?_
      refine LOps.st rfl rfl rfl (LOp.move rfl rfl) ?_
      refine LOps.st rfl rfl rfl (LOp.move rfl rfl) ?_
      refine LOps.st rfl rfl rfl (LOp.move rfl rfl) ?_
      obtain ⟨y1, h_y1, hr⟩ := bind_get hr
      refine LOps.st rfl rfl rfl (LOp.indexAddrVP rfl rfl rfl rfl st68 h_y1) ?_
      refine LOps.st rfl rfl rfl (LOp.loadVX rfl rfl rfl vt82 (ix_take h_y1).1 rfl rfl rfl rfl) ?_
      obtain ⟨v2, h_v2, hr⟩ := bind_get hr
      refine LOps.st rfl rfl rfl (LOp.call rfl rfl rfl (by kernel_rfl) (cF136 h_v2)) ?_
      refine LOps.nil ?_
      refine thn_n ?_
      refine LW.cond rfl (fun (g2 : v2.1 = true) => ?_) (fun (g2 : v2.1 = false) => ?_)
      · -- g2 is True
        have hr := ite_t g2 hr
        refine LW.seq ?_
        refine LW.region ?_
        refine LOps.st rfl rfl rfl (LOp.move rfl rfl) ?_
        refine LOps.st rfl rfl rfl (LOp.assign rfl rfl) ?_
        refine LOps.nil ?_
        refine thn_n ?_
        refine LW.ret ?_
        refine inBlk_r ?_
        refine thn_r ?_
        refine thn_r ?_
        refine inBlk_r ?_
        refine thn_r ?_
        refine thn_r ?_
        obtain rfl := Option.some.inj hr
        have hr := congrArg some (hb_x1 _ rfl)
        obtain rfl := Option.some.inj hr
        have hr := sum_r ho_v1
        obtain rfl := Option.some.inj hr
        refine fin_ret (.one (.tmp rfl)) ?_
        exact ⟨rfl, rfl⟩
      · -- g2 is False
        have hr := ite_f g2 hr
        refine LW.skip ?_
        refine inBlk_n ?_
        refine thn_n ?_
        refine LW.region ?_
        refine LOps.st rfl rfl rfl (LOp.bin rfl rfl rfl rfl) ?_
        refine LOps.st rfl rfl rfl (LOp.move rfl rfl) ?_
        refine LOps.nil ?_
        refine thn_n ?_
        obtain rfl := Option.some.inj hr
        exact ⟨_, rfl, Weak.of 17 ⟨rfl, rfl, rfl, rfl, rfl, trivial⟩ rfl rfl rfl (lowObjs_cons rfl (lowObjs_cons rfl (lowObjs_cons rfl (lowObjs_cons rfl (lowObjs_cons rfl (lowObjs_cons rfl (lowObjs_cons rfl (lowObjs_cons rfl (lowObjs_cons (entsLow (fun _ => rfl) _) (lowObjs_cons (entsLow (fun _ => rfl) _) (lowObjs_cons rfl (lowObjs_cons rfl (lowObjs_cons rfl (lowObjs_cons rfl (lowObjs_cons rfl (lowObjs_cons rfl (lowObjs_cons rfl rfl)))))))))))))))))⟩
    · -- g1 is False
      have hr := ite_f g1 hr
      refine LW.exit ?_
      refine thn_e ?_
      refine thn_e ?_
      refine inBlk_self ?_
      refine thn_n ?_
      obtain rfl := Option.some.inj hr
      have hr := congrArg some (hb_x1 _ rfl)
      obtain rfl := Option.some.inj hr
      exact ⟨_, rfl, Weak.of 17 ⟨rfl, trivial⟩ rfl rfl rfl (lowObjs_cons rfl (lowObjs_cons rfl (lowObjs_cons rfl (lowObjs_cons rfl (lowObjs_cons rfl (lowObjs_cons rfl (lowObjs_cons rfl (lowObjs_cons rfl (lowObjs_cons (entsLow (fun _ => rfl) _) (lowObjs_cons (entsLow (fun _ => rfl) _) (lowObjs_cons rfl (lowObjs_cons rfl (lowObjs_cons rfl (lowObjs_cons rfl (lowObjs_cons rfl (lowObjs_cons rfl (lowObjs_cons rfl rfl)))))))))))))))))⟩
  · obtain rfl := e_v1
    have hr := sum_l ho_v1
    clear hb_v1
    refine thn_n ?_
    refine LW.weak hw_v1 ?_
    refine LW.seq ?_
    refine LW.region ?_
    refine LOps.st rfl rfl rfl (LOp.assign rfl rfl) ?_
    refine LOps.nil ?_
    refine thn_n ?_
    refine LW.ret ?_
    obtain rfl := Option.some.inj hr
    refine fin_ret (.one (.tmp rfl)) ?_
    exact ⟨rfl, rfl⟩
structure F138_L1 where
  i : Int
  j : Int
  o7 : List Vt
  o9 : List (Vt × Bool)
  o10_5 : Bool
  o15 : List Vt
def F138_s1 (kk : Nat) (sm : List (ID × Int)) (upto : Int) (x1 : F138_L1) : Option (F138_L1 ⊕ F138_L1) :=
  bif decide (x1.j < (kk : Int)) then
    (ix (x1.o15.take kk) x1.j).bind fun y1 =>
    (F136 y1 x1.o7 sm x1.o9 upto x1.o10_5).bind fun v3 =>
    bif !v3.1 then
      (ix (x1.o15.take kk) x1.i).bind fun _ =>
      some (.inl (F138_L1.mk (IntKind.i64.wrap (x1.i + 1)) (IntKind.i64.wrap (x1.j + 1)) v3.2.1 v3.2.2.1 v3.2.2.2 (x1.o15.set x1.i.toNat y1)))
    else
      some (.inl (F138_L1.mk x1.i (IntKind.i64.wrap (x1.j + 1)) v3.2.1 v3.2.2.1 v3.2.2.2 x1.o15))
  else
    some (.inr (F138_L1.mk x1.i x1.j x1.o7 x1.o9 x1.o10_5 x1.o15))
def F138 (lV : List Vt) (kk : Nat) (wV : List Vt) (sm : List (ID × Int)) (hm : List (Vt × Bool)) (upto : Int) (full : Bool) : Option (Nat × List Vt × List Vt × List (Vt × Bool) × Bool) :=
  (F158 lV kk wV sm hm upto full).bind fun v1 =>
  bif v1.1 == (-1) then
    some (kk, lV, v1.2.1, v1.2.2.1, v1.2.2.2)
  else
    (iter (F138_s1 kk sm upto) big (F138_L1.mk v1.1 (IntKind.i64.wrap (v1.1 + 1)) v1.2.1 v1.2.2.1 v1.2.2.2 lV)).bind fun v2 =>
    bif decide (0 ≤ v2.i ∧ v2.i ≤ (kk : Int)) then
      bif decide (v2.i.toNat + (kk - v2.i.toNat) ≤ v2.o15.length) then
        bif decide (0 ≤ v2.i ∧ v2.i ≤ (kk : Int)) then
          some (v2.i.toNat, clrL v2.o15 v2.i.toNat (kk - v2.i.toNat) (Vt.mk 0 0 (0, 0)), v2.o7, v2.o9, v2.o10_5)
        else none
      else none
    else none
set_option maxRecDepth 100000 in
theorem cF138 {lV : List Vt} {kk : Nat} {wB : List Bk} {wV : List Vt} {sm : List (ID × Int)} {hm : List (Vt × Bool)} {upto : Int} {full : Bool} {lB : List Bk} {n0 : Nat} {k0 : Nat} {n1 : Nat} {k1 : Nat} {r_ : Nat × List Vt × List Vt × List (Vt × Bool) × Bool} (hr : F138 lV kk wV sm hm upto full = some r_) : LC Try.prog 138 [.vec 4 15 (lV.map vtP).length 0 kk, .fn 136 [.ptr 10 0] []] [.dead, .dead, .dead, .box [.zs, .zs], .box [.zs, .zs], .dead, .vec 5 (wB.map blkP), .vec 4 (wV.map vtP), .map (entsOf idP (fun v => .p (.int .i64 v)) sm), .map (entsOf vtP (fun v => .p (.bool v)) hm), .box [.vec 5 6 (wB.map blkP).length 0 (wB.map blkP).length, .vec 4 7 (wV.map vtP).length 0 (wV.map vtP).length, .map 8, .map 9, .p (.int .i64 upto), .p (.bool full)], .dead, .dead, .dead, .vec 5 (lB.map blkP), .vec 4 (lV.map vtP), .box [.vec 5 14 n0 0 k0, .vec 4 15 n1 0 k1]] (Is (.vec 4 15 (r_.2.1.map vtP).length 0 r_.1) [.dead, .dead, .dead, .box [.zs, .zs], .box [.zs, .zs], .dead, .vec 5 (wB.map blkP), .vec 4 (r_.2.2.1.map vtP), .map (entsOf idP (fun v => .p (.int .i64 v)) sm), .map (entsOf vtP (fun v => .p (.bool v)) r_.2.2.2.1), .box [.vec 5 6 (wB.map blkP).length 0 (wB.map blkP).length, .vec 4 7 (r_.2.2.1.map vtP).length 0 (r_.2.2.1.map vtP).length, .map 8, .map 9, .p (.int .i64 upto), .p (.bool r_.2.2.2.2)], .dead, .dead, .dead, .vec 5 (lB.map blkP), .vec 4 (r_.2.1.map vtP), .box [.vec 5 14 n0 0 k0, .vec 4 15 n1 0 k1]]) := by
  refine LC.start Try.func138 rfl rfl rfl ?_
  unfold F138 at hr
  refine LW.seq ?_
  refine LW.region ?_
  refine LOps.st rfl rfl rfl (LOp.assign rfl rfl) ?_
  refine LOps.nil ?_
  refine thn_n ?_
  refine LW.seq ?_
  refine LW.region ?_
  refine LOps.st rfl rfl rfl (LOp.move rfl rfl) ?_
  refine LOps.st rfl rfl rfl (LOp.move rfl rfl) ?_
  obtain ⟨v1, h_v1, hr⟩ := bind_get hr
  refine LOps.st rfl rfl rfl (LOp.call rfl rfl rfl (by kernel_rfl) (cF158 h_v1)) ?_
  refine LOps.st rfl rfl rfl (LOp.assign rfl rfl) ?_
  refine LOps.nil ?_
  refine thn_n ?_
  refine LW.seq ?_
  refine LW.seq ?_
  refine LW.region ?_
  refine LOps.st rfl rfl rfl (LOp.move rfl rfl) ?_
  refine LOps.st rfl rfl rfl (LOp.bin rfl rfl rfl rfl) ?_
  refine LOps.nil ?_
  refine thn_n ?_
  refine LW.cond rfl (fun (g1 : (v1.1 == (-1)) = true) => ?_) (fun (g1 : (v1.1 == (-1)) = false) => ?_)
  · -- g1 is True
    have hr := ite_t g1 hr
    refine LW.seq ?_
    refine LW.region ?_
    refine LOps.st rfl rfl rfl (LOp.move rfl rfl) ?_
    refine LOps.st rfl rfl rfl (LOp.assign rfl rfl) ?_
    refine LOps.nil ?_
    refine thn_n ?_
    refine LW.ret ?_
    refine thn_r ?_
    obtain rfl := Option.some.inj hr
    refine fin_ret (.one (.tmp rfl)) ?_
    exact ⟨rfl, rfl⟩
  · -- g1 is False
    have hr := ite_f g1 hr
    refine LW.skip ?_
    refine thn_n ?_
    refine LW.seq ?_
    refine LW.seq ?_
    refine LW.region ?_
    refine LOps.st rfl rfl rfl (LOp.move rfl rfl) ?_
    refine LOps.st rfl rfl rfl (LOp.bin rfl rfl rfl rfl) ?_
    refine LOps.st rfl rfl rfl (LOp.assign rfl rfl) ?_
    refine LOps.nil ?_
    refine thn_n ?_
    obtain ⟨v2, hb_v2, ho_v2⟩ := bind_get hr
    clear hr
    refine LW.tail (E := [(0, .vec 4 15 (v2.o15.map vtP).length 0 kk), (4, .zs), (5, .p (.int .i64 v2.i))]) (O := [.dead, .dead, .dead, .box [.zs, .zs], .box [.zs, .zs], .dead, .vec 5 (wB.map blkP), .vec 4 (v2.o7.map vtP), .map (entsOf idP (fun v => .p (.int .i64 v)) sm), .map (entsOf vtP (fun v => .p (.bool v)) v2.o9), .box [.vec 5 6 (wB.map blkP).length 0 (wB.map blkP).length, .vec 4 7 (v2.o7.map vtP).length 0 (v2.o7.map vtP).length, .map 8, .map 9, .p (.int .i64 upto), .p (.bool v2.o10_5)], .dead, .dead, .dead, .vec 5 (lB.map blkP), .vec 4 (v2.o15.map vtP), .box [.vec 5 14 n0 0 k0, .vec 4 15 n1 0 k1]]) ?_ (fun env_v2 H_v2 hw_v2 => ?_)
    · refine LW.block ?_
      refine LW.iterB (E := fun x1 : F138_L1 => [(0, .vec 4 15 (x1.o15.map vtP).length 0 kk), (1, .fn 136 [.ptr 10 0] []), (4, .zs), (5, .p (.int .i64 x1.i)), (6, .p (.int .i64 x1.j))]) (O := fun x1 => [.dead, .dead, .dead, .box [.zs, .zs], .box [.zs, .zs], .dead, .vec 5 (wB.map blkP), .vec 4 (x1.o7.map vtP), .map (entsOf idP (fun v => .p (.int .i64 v)) sm), .map (entsOf vtP (fun v => .p (.bool v)) x1.o9), .box [.vec 5 6 (wB.map blkP).length 0 (wB.map blkP).length, .vec 4 7 (x1.o7.map vtP).length 0 (x1.o7.map vtP).length, .map 8, .map 9, .p (.int .i64 upto), .p (.bool x1.o10_5)], .dead, .dead, .dead, .vec 5 (lB.map blkP), .vec 4 (x1.o15.map vtP), .box [.vec 5 14 n0 0 k0, .vec 4 15 n1 0 k1]]) hb_v2 (Weak.of 17 ⟨rfl, rfl, rfl, rfl, rfl, trivial⟩ rfl rfl rfl (lowObjs_cons rfl (lowObjs_cons rfl (lowObjs_cons rfl (lowObjs_cons rfl (lowObjs_cons rfl (lowObjs_cons rfl (lowObjs_cons rfl (lowObjs_cons rfl (lowObjs_cons (entsLow (fun _ => rfl) _) (lowObjs_cons (entsLow (fun _ => rfl) _) (lowObjs_cons rfl (lowObjs_cons rfl (lowObjs_cons rfl (lowObjs_cons rfl (lowObjs_cons rfl (lowObjs_cons rfl (lowObjs_cons rfl rfl)))))))))))))))))) (fun x1 z_x1 hr hb_x1 => ?_)
      unfold F138_s1 at hr
      refine LW.seq ?_
      refine LW.seq ?_
      refine LW.region ?_
      refine LOps.st rfl rfl rfl (LOp.move rfl rfl) ?_
      refine LOps.st rfl rfl rfl (LOp.move rfl rfl) ?_
      refine LOps.st rfl rfl rfl (LOp.lenVP rfl rfl rfl (by kernel_rfl)) ?_
      refine LOps.st rfl rfl rfl (LOp.bin rfl rfl rfl rfl) ?_
      refine LOps.nil ?_
      refine thn_n ?_
      refine LW.cond rfl (fun (g2 : (decide (x1.j < (kk : Int))) = true) => ?_) (fun (g2 : (decide (x1.j < (kk : Int))) = false) => ?_)
      · -- g2 is True
        have hr := ite_t g2 hr
        refine LW.skip ?_
        refine thn_n ?_
        refine LW.seq ?_
        refine LW.block ?_
        refine LW.seq ?_
        refine LW.region ?_
        refine LOps.st rfl rfl rfl (LOp.move rfl rfl) ?_
        refine LOps.st rfl rfl rfl (LOp.move rfl rfl) ?_
        obtain ⟨y1, h_y1, hr⟩ := bind_get hr
        refine LOps.st rfl rfl rfl (LOp.indexAddrVP rfl rfl rfl rfl st68 h_y1) ?_
        refine LOps.st rfl rfl rfl (LOp.loadVX rfl rfl rfl vt82 (ix_take h_y1).1 rfl rfl rfl rfl) ?_
        refine LOps.st rfl rfl rfl (LOp.alloc rfl zt82 rfl rfl) ?_
        refine LOps.st rfl rfl rfl (LOp.store rfl rfl rfl rfl vt82 rfl rfl rfl rfl) ?_
        refine LOps.nil ?_
        refine thn_n ?_
        refine LW.seq ?_
        refine LW.region ?_
        refine LOps.st rfl rfl rfl (LOp.move rfl rfl) ?_
        refine LOps.st rfl rfl rfl (LOp.load rfl rfl rfl vt82 rfl rfl) ?_
        obtain ⟨v3, h_v3, hr⟩ := bind_get hr
        refine LOps.st rfl rfl rfl (LOp.call rfl rfl rfl (by kernel_rfl) (LC.pre (cF136 h_v3) rfl (lowObjs_cons rfl (lowObjs_cons rfl (lowObjs_cons rfl (lowObjs_cons rfl (lowObjs_cons rfl (lowObjs_cons rfl (lowObjs_cons rfl (lowObjs_cons rfl (lowObjs_cons (entsLow (fun _ => rfl) _) (lowObjs_cons (entsLow (fun _ => rfl) _) (lowObjs_cons rfl (lowObjs_cons rfl (lowObjs_cons rfl (lowObjs_cons rfl (lowObjs_cons rfl (lowObjs_cons rfl (lowObjs_cons rfl rfl))))))))))))))))) rfl)) ?_
        refine LOps.st rfl rfl rfl (LOp.not rfl rfl) ?_
        refine LOps.nil ?_
        refine thn_n ?_
        refine LW.cond rfl (fun (g3 : (!v3.1) = true) => ?_) (fun (g3 : (!v3.1) = false) => ?_)
        · -- g3 is True
          have hr := ite_t g3 hr
          refine LW.seq ?_
          refine LW.region ?_
          refine LOps.st rfl rfl rfl (LOp.move rfl rfl) ?_
          refine LOps.st rfl rfl rfl (LOp.move rfl rfl) ?_
          refine LOps.st rfl rfl rfl (LOp.load rfl rfl rfl vt82 rfl rfl) ?_
          obtain ⟨y2, h_y2, hr⟩ := bind_get hr
          refine LOps.st rfl rfl rfl (LOp.indexAddrVP rfl rfl rfl rfl st68 h_y2) ?_
          refine LOps.st rfl rfl rfl (LOp.storeVP (f := vtP) (l := x1.o15) y1 rfl rfl rfl rfl vt82 (fun _ => rfl) (ix_take h_y2).1 rfl rfl rfl rfl rfl rfl rfl) ?_
          refine LOps.nil ?_
          refine thn_n ?_
          refine LW.region ?_
          refine LOps.st rfl rfl rfl (LOp.move rfl rfl) ?_
          refine LOps.st rfl rfl rfl (LOp.bin rfl rfl rfl rfl) ?_
          refine LOps.st rfl rfl rfl (LOp.assign rfl rfl) ?_
          refine LOps.nil ?_
          refine inBlk_n ?_
          refine thn_n ?_
          refine LW.region ?_
          refine LOps.st rfl rfl rfl (LOp.move rfl rfl) ?_
          refine LOps.st rfl rfl rfl (LOp.bin rfl rfl rfl rfl) ?_
          refine LOps.st rfl rfl rfl (LOp.assign rfl rfl) ?_
          refine LOps.nil ?_
          refine thn_n ?_
          obtain rfl := Option.some.inj hr
          exact ⟨_, rfl, Weak.of 17 ⟨(pset (rfl)), rfl, rfl, rfl, rfl, trivial⟩ rfl rfl rfl (lowObjs_cons rfl (lowObjs_cons rfl (lowObjs_cons rfl (lowObjs_cons rfl (lowObjs_cons rfl (lowObjs_cons rfl (lowObjs_cons rfl (lowObjs_cons rfl (lowObjs_cons (entsLow (fun _ => rfl) _) (lowObjs_cons (entsLow (fun _ => rfl) _) (lowObjs_cons rfl (lowObjs_cons rfl (lowObjs_cons rfl (lowObjs_cons rfl (lowObjs_cons rfl (lowObjs_cons rfl (lowObjs_cons rfl rfl)))))))))))))))))⟩
        · -- g3 is False
          have hr := ite_f g3 hr
          refine LW.skip ?_
          refine inBlk_n ?_
          refine thn_n ?_
          refine LW.region ?_
          refine LOps.st rfl rfl rfl (LOp.move rfl rfl) ?_
          refine LOps.st rfl rfl rfl (LOp.bin rfl rfl rfl rfl) ?_
          refine LOps.st rfl rfl rfl (LOp.assign rfl rfl) ?_
          refine LOps.nil ?_
          refine thn_n ?_
          obtain rfl := Option.some.inj hr
          exact ⟨_, rfl, Weak.of 17 ⟨rfl, rfl, rfl, rfl, rfl, trivial⟩ rfl rfl rfl (lowObjs_cons rfl (lowObjs_cons rfl (lowObjs_cons rfl (lowObjs_cons rfl (lowObjs_cons rfl (lowObjs_cons rfl (lowObjs_cons rfl (lowObjs_cons rfl (lowObjs_cons (entsLow (fun _ => rfl) _) (lowObjs_cons (entsLow (fun _ => rfl) _) (lowObjs_cons rfl (lowObjs_cons rfl (lowObjs_cons rfl (lowObjs_cons rfl (lowObjs_cons rfl (lowObjs_cons rfl (lowObjs_cons rfl rfl)))))))))))))))))⟩
      · -- g2 is False
        have hr := ite_f g2 hr
        refine LW.exit ?_
        refine thn_e ?_
        refine thn_e ?_
        refine inBlk_self ?_
        refine thn_n ?_
        obtain rfl := Option.some.inj hr
        have hr := congrArg some (hb_x1 _ rfl)
        obtain rfl := Option.some.inj hr
        exact Weak.of 17 ⟨rfl, rfl, rfl, trivial⟩ rfl rfl rfl (lowObjs_cons rfl (lowObjs_cons rfl (lowObjs_cons rfl (lowObjs_cons rfl (lowObjs_cons rfl (lowObjs_cons rfl (lowObjs_cons rfl (lowObjs_cons rfl (lowObjs_cons (entsLow (fun _ => rfl) _) (lowObjs_cons (entsLow (fun _ => rfl) _) (lowObjs_cons rfl (lowObjs_cons rfl (lowObjs_cons rfl (lowObjs_cons rfl (lowObjs_cons rfl (lowObjs_cons rfl (lowObjs_cons rfl rfl)))))))))))))))))
    · have hr := ho_v2
      clear hb_v2
      refine thn_n ?_
      refine LW.weak hw_v2 ?_
      refine LW.seq ?_
      refine LW.region ?_
      refine LOps.st rfl rfl rfl (LOp.move rfl rfl) ?_
      refine LOps.st rfl rfl rfl (LOp.move rfl rfl) ?_
      obtain ⟨q1, hr⟩ := grd_get hr
      refine LOps.st rfl rfl rfl (LOp.sliceVLo rfl rfl rfl rfl st68 q1) ?_
      obtain ⟨q2, hr⟩ := grd_get hr
      refine LOps.st rfl rfl rfl (LOp.clearVP (f := vtP) (zs := [.int .i64 0, .int .i64 0, .int .u64 0, .int .u64 0]) (Vt.mk 0 0 (0, 0)) rfl rfl rfl st68 (fun _ => rfl) (by kernel_rfl) rfl q2 rfl) ?_
      refine LOps.nil ?_
      refine thn_n ?_
      refine LW.seq ?_
      refine LW.ent (Ent.vlen (t := 0) (n' := ((clrL v2.o15 v2.i.toNat (kk - v2.i.toNat) (Vt.mk 0 0 (0, 0))).map vtP).length) rfl (clr_len q2)) ?_
      refine LW.region ?_
      refine LOps.st rfl rfl rfl (LOp.move rfl rfl) ?_
      refine LOps.st rfl rfl rfl (LOp.move rfl rfl) ?_
      obtain ⟨q3, hr⟩ := grd_get hr
      refine LOps.st rfl rfl rfl (LOp.sliceVHi rfl rfl rfl rfl st68 q3) ?_
      refine LOps.st rfl rfl rfl (LOp.assign rfl rfl) ?_
      refine LOps.nil ?_
      refine thn_n ?_
      refine LW.ret ?_
      obtain rfl := Option.some.inj hr
      refine fin_ret (.one (.tmp rfl)) ?_
      exact ⟨rfl, rfl⟩
open Go.Proofs
structure F90_L1 where
  n : Int
  o6 : List Bk
  o7 : List Vt
  o8 : List (ID × Int)
  o9 : List (Vt × Bool)
  x_5 : Bool
  o14 : List Bk
  o15 : List Vt
  left_0 : Nat
  left_1 : Nat
def F90_s1 (slot : Int) (x1 : F90_L1) : Option (F90_L1 ⊕ F90_L1) :=
  bif x1.n != (IntKind.i64.wrap ((x1.o6.length : Int) + (x1.o7.length : Int))) then
    (F137 x1.o14 x1.left_0 x1.o6 x1.o8 slot x1.x_5).bind fun v5 =>
    (F138 x1.o15 x1.left_1 x1.o7 v5.2.2.2.1 x1.o9 slot v5.2.2.2.2).bind fun v6 =>
    some (.inl (F90_L1.mk (IntKind.i64.wrap ((x1.o6.length : Int) + (x1.o7.length : Int))) v5.2.2.1 v6.2.2.1 v5.2.2.2.1 v6.2.2.2.1 v6.2.2.2.2 v5.2.1 v6.2.1 v5.1 v6.1))
  else
    some (.inr (F90_L1.mk x1.n x1.o6 x1.o7 x1.o8 x1.o9 x1.x_5 x1.o14 x1.o15 x1.left_0 x1.left_1))
def F90 (c : Cf) (w : Vw) (v_in : Vw) (slot : Int) : Option (Vw × Vw × Bool) :=
  (F130 w slot).bind fun v1 =>
  (F89 c w).bind fun v2 =>
  bif !v2 then
    bif room 0 v_in.B.length 40 then
      bif room 0 v_in.V.length 32 then
        some (w, v_in, false)
      else none
    else none
  else
    (F85V c v_in).bind fun v3 =>
    (iter (F90_s1 slot) big (F90_L1.mk (-1) w.B w.V v1.1 v1.2 false v3.1 v3.2 ((v3.1.map blkP).length) ((v3.2.map vtP).length))).bind fun v4 =>
    bif Nat.ble v4.left_0 v4.o14.length then
      bif Nat.ble v4.left_1 v4.o15.length then
        some (Vw.mk v4.o6 v4.o7, Vw.mk (v4.o14.take v4.left_0) (v4.o15.take v4.left_1), v4.x_5)
      else none
    else none
set_option maxRecDepth 100000 in
theorem c90 {c : Cf} {w : Vw} {v_in : Vw} {slot : Int} {r_ : Vw × Vw × Bool} (hr : F90 c w v_in slot = some r_) : LPure Try.prog 90 [cfP c, vwP w, vwP v_in, .int .i64 slot] [vwP r_.1, vwP r_.2.1, .bool r_.2.2] := by
  refine LPure.start Try.func90 rfl rfl rfl rfl ?_
  unfold F90 at hr
  refine LW.seq ?_
  refine LW.region ?_
  refine LOps.st rfl rfl rfl (LOp.box rfl rfl rfl rfl rfl) ?_
  refine LOps.st rfl rfl rfl (LOp.box rfl rfl rfl rfl rfl) ?_
  refine LOps.st rfl rfl rfl (LOp.box rfl rfl rfl rfl rfl) ?_
  refine LOps.st rfl rfl rfl (LOp.alloc rfl zt75 rfl rfl) ?_
  refine LOps.st rfl rfl rfl (LOp.alloc rfl zt75 rfl rfl) ?_
  refine LOps.st rfl rfl rfl (LOp.assign rfl rfl) ?_
  refine LOps.nil ?_
  refine thn_n ?_
  refine LW.seq ?_
  refine LW.region ?_
  refine LOps.st rfl rfl rfl (LOp.load rfl rfl rfl vt75 rfl rfl) ?_
  refine LOps.st rfl rfl rfl (LOp.move rfl rfl) ?_
  obtain ⟨v1, h_v1, hr⟩ := bind_get hr
  refine LOps.st rfl rfl rfl (LOp.call rfl rfl rfl (by kernel_rfl) (LC.frameX (x' := .ptr 10 0) (H' := [.box [.p (.slice 1 (c.W.map i64P)), .p (.int .u64 c.Seed), .p (.int .i64 c.Epoch), .p (.int .i64 c.Num), .p (.int .i64 c.Den)], .box [.p (.slice 5 (w.B.map blkP)), .p (.slice 4 (w.V.map vtP))], .box [.p (.slice 5 (v_in.B.map blkP)), .p (.slice 4 (v_in.V.map vtP))], .box [.zs, .zs], .box [.zs, .zs], .box [.p (.slice 5 (w.B.map blkP)), .p (.slice 4 (w.V.map vtP))], .vec 5 (w.B.map blkP), .vec 4 (w.V.map vtP), .map (entsOf idP (fun v => .p (.int .i64 v)) v1.1), .map (entsOf vtP (fun v => .p (.bool v)) v1.2), .box [.vec 5 6 (w.B.map blkP).length 0 (w.B.map blkP).length, .vec 4 7 (w.V.map vtP).length 0 (w.V.map vtP).length, .map 8, .map 9, .p (.int .i64 slot), .p (.bool false)]]) (cF130 h_v1) (.consC Conv.p (.consC Conv.p .nil)) rfl rfl (by simp only [List.map_cons, List.map_nil, List.cons_append, List.nil_append, LObj.shift, LV.shifts, LV.shift, entsShI, entsShB] <;> rfl))) ?_
  refine LOps.st rfl rfl rfl (LOp.assign rfl rfl) ?_
  refine LOps.nil ?_
  refine thn_n ?_
  refine LW.seq ?_
  refine LW.seq ?_
  refine LW.region ?_
  refine LOps.st rfl rfl rfl (LOp.load rfl rfl rfl vt55 rfl rfl) ?_
  refine LOps.st rfl rfl rfl (LOp.load rfl rfl rfl vt75 rfl rfl) ?_
  obtain ⟨v2, h_v2, hr⟩ := bind_get hr
  refine LOps.st rfl rfl rfl (LOp.call rfl rfl rfl (by kernel_rfl) (LC.pure (c89 h_v2) (.cons Conv.p (.cons Conv.p .nil)))) ?_
  refine LOps.st rfl rfl rfl (LOp.not rfl rfl) ?_
  refine LOps.nil ?_
  refine thn_n ?_
  refine LW.cond rfl (fun (g1 : (!v2) = true) => ?_) (fun (g1 : (!v2) = false) => ?_)
  · -- g1 is True
    have hr := ite_t g1 hr
    refine LW.seq ?_
    refine LW.ent (Ent.slot rfl) ?_
    refine LW.ent (Ent.slot rfl) ?_
    refine LW.drawW (by kernel_rfl) (by kernel_rfl) ?_
    refine LF.st (F := []) (s := none) rfl rfl rfl (fun H _ => LOp.move rfl rfl) rfl ?_
    refine LF.st (F := []) (s := none) rfl rfl rfl (fun H _ => LOp.nilCheck rfl rfl) rfl ?_
    refine LF.st (F := []) (s := none) rfl rfl rfl (fun H _ => LOp.fieldAddr rfl rfl ft149_0) rfl ?_
    refine LF.st rfl rfl rfl (LAt.load rfl rfl rfl vt75 rfl rfl) rfl ?_
    refine LF.st (F := []) (s := none) rfl rfl rfl (fun H _ => LOp.fieldAddr rfl rfl ft75_0) rfl ?_
    refine LF.st rfl rfl rfl (LAt.load rfl rfl rfl vt27 rfl rfl) rfl ?_
    obtain ⟨q1, hr⟩ := grd_get hr
    refine LF.st rfl rfl rfl (LAt.callV (id := 11) (qs := [.p (.slice 5 (v_in.B.map blkP))]) rfl rfl rfl (by kernel_rfl) (c133V q1) (fun H => (.consC Conv.p .nil)) rfl) rfl ?_
    refine LF.st (F := []) (s := none) rfl rfl rfl (fun H _ => LOp.fieldAddr rfl rfl ft75_1) rfl ?_
    refine LF.st rfl rfl rfl (LAt.load rfl rfl rfl vt68 rfl rfl) rfl ?_
    obtain ⟨q2, hr⟩ := grd_get hr
    refine LF.st rfl rfl rfl (LAt.callV (id := 12) (qs := [.p (.slice 4 (v_in.V.map vtP))]) rfl rfl rfl (by kernel_rfl) (c134V q2) (fun H => (.consC Conv.p .nil)) rfl) rfl ?_
    refine LF.st (F := []) (s := none) rfl rfl rfl (fun H _ => LOp.build rfl bt75 rfl rfl rfl) rfl ?_
    refine LF.st rfl rfl rfl (LAt.store rfl rfl rfl rfl vt75 rfl rfl rfl) rfl ?_
    refine LF.st rfl rfl rfl (LAt.store rfl rfl rfl rfl vt75 rfl rfl rfl) rfl ?_
    refine LF.st (F := []) (s := none) rfl rfl rfl (fun H _ => LOp.assign rfl rfl) rfl ?_
    refine LF.nil ⟨by kernel_rfl, ?_⟩
    refine thn_n ?_
    refine LW.ret ?_
    refine thn_r ?_
    obtain rfl := Option.some.inj hr
    refine finP_ret (.three (.cellAgg rfl rfl (by kernel_rfl) rfl) (.cellAgg rfl rfl (by kernel_rfl) rfl) (.tmp rfl)) ?_
    exact ⟨_, rfl, (.cons (Conv.agg (.cons (Conv.vecAll rfl rfl rfl) (.cons (Conv.vecAll rfl rfl rfl) .nil))) (.cons (Conv.agg (.cons (Conv.vecAll rfl rfl rfl) (.cons (Conv.vecAll rfl rfl rfl) .nil))) (.cons Conv.p .nil)))⟩
  · -- g1 is False
    have hr := ite_f g1 hr
    refine LW.skip ?_
    refine thn_n ?_
    refine LW.seq ?_
    refine LW.region ?_
    refine LOps.st rfl rfl rfl (LOp.move rfl rfl) ?_
    refine LOps.st rfl rfl rfl (LOp.makeFunc rfl rfl rfl) ?_
    refine LOps.st rfl rfl rfl (LOp.move rfl rfl) ?_
    refine LOps.st rfl rfl rfl (LOp.makeFunc rfl rfl rfl) ?_
    refine LOps.st rfl rfl rfl (LOp.assign rfl rfl) ?_
    refine LOps.st rfl rfl rfl (LOp.assign rfl rfl) ?_
    refine LOps.nil ?_
    refine thn_n ?_
    refine LW.seq ?_
    refine LW.region ?_
    refine LOps.st rfl rfl rfl (LOp.load rfl rfl rfl vt55 rfl rfl) ?_
    refine LOps.st rfl rfl rfl (LOp.load rfl rfl rfl vt75 rfl rfl) ?_
    obtain ⟨v3, h_v3, hr⟩ := bind_get hr
    refine LOps.st rfl rfl rfl (LOp.call rfl rfl rfl (by kernel_rfl) (LC.frameX (x' := .agg [.vec 5 14 (v3.1.map blkP).length 0 (v3.1.map blkP).length, .vec 4 15 (v3.2.map vtP).length 0 (v3.2.map vtP).length]) (H' := [.box [.p (.slice 1 (c.W.map i64P)), .p (.int .u64 c.Seed), .p (.int .i64 c.Epoch), .p (.int .i64 c.Num), .p (.int .i64 c.Den)], .box [.p (.slice 5 (w.B.map blkP)), .p (.slice 4 (w.V.map vtP))], .box [.p (.slice 5 (v_in.B.map blkP)), .p (.slice 4 (v_in.V.map vtP))], .box [.zs, .zs], .box [.zs, .zs], .box [.p (.slice 5 (w.B.map blkP)), .p (.slice 4 (w.V.map vtP))], .vec 5 (w.B.map blkP), .vec 4 (w.V.map vtP), .map (entsOf idP (fun v => .p (.int .i64 v)) v1.1), .map (entsOf vtP (fun v => .p (.bool v)) v1.2), .box [.vec 5 6 (w.B.map blkP).length 0 (w.B.map blkP).length, .vec 4 7 (w.V.map vtP).length 0 (w.V.map vtP).length, .map 8, .map 9, .p (.int .i64 slot), .p (.bool false)], .box [.p (.slice 1 (c.W.map i64P)), .p (.int .u64 c.Seed), .p (.int .i64 c.Epoch), .p (.int .i64 c.Num), .p (.int .i64 c.Den)], .box [.p (.slice 5 (v_in.B.map blkP)), .p (.slice 4 (v_in.V.map vtP))], .box [.vec 5 14 (v3.1.map blkP).length 0 (v3.1.map blkP).length, .vec 4 15 (v3.2.map vtP).length 0 (v3.2.map vtP).length], .vec 5 (v3.1.map blkP), .vec 4 (v3.2.map vtP)]) (cF85V h_v3) (.consC Conv.p (.consC Conv.p .nil)) rfl rfl (by simp only [List.map_cons, List.map_nil, List.cons_append, List.nil_append, LObj.shift, LV.shifts, LV.shift, entsShI, entsShB] <;> rfl))) ?_
    refine LOps.st rfl rfl rfl (LOp.alloc rfl zt75 rfl rfl) ?_
    refine LOps.st rfl rfl rfl (LOp.store rfl rfl rfl rfl vt75 rfl rfl rfl rfl) ?_
    refine LOps.nil ?_
    refine thn_n ?_
    refine LW.seq ?_
    refine LW.seq ?_
    refine LW.ent (Ent.kill (i := 0) rfl) ?_
    refine LW.ent (Ent.kill (i := 1) rfl) ?_
    refine LW.ent (Ent.kill (i := 2) rfl) ?_
    refine LW.ent (Ent.kill (i := 5) rfl) ?_
    refine LW.ent (Ent.kill (i := 11) rfl) ?_
    refine LW.ent (Ent.kill (i := 12) rfl) ?_
    refine LW.ent (Ent.kill (i := 13) rfl) ?_
    refine LW.region ?_
    refine LOps.st rfl rfl rfl (LOp.assign rfl rfl) ?_
    refine LOps.nil ?_
    refine thn_n ?_
    obtain ⟨v4, hb_v4, ho_v4⟩ := bind_get hr
    clear hr
    refine LW.tail (E := [(8, .ptr 3 0), (9, .ptr 4 0), (10, .p (.bool false)), (11, .ptr 10 0), (14, .ptr 16 0)]) (O := [.dead, .dead, .dead, .box [.zs, .zs], .box [.zs, .zs], .dead, .vec 5 (v4.o6.map blkP), .vec 4 (v4.o7.map vtP), .map (entsOf idP (fun v => .p (.int .i64 v)) v4.o8), .map (entsOf vtP (fun v => .p (.bool v)) v4.o9), .box [.vec 5 6 (v4.o6.map blkP).length 0 (v4.o6.map blkP).length, .vec 4 7 (v4.o7.map vtP).length 0 (v4.o7.map vtP).length, .map 8, .map 9, .p (.int .i64 slot), .p (.bool v4.x_5)], .dead, .dead, .dead, .vec 5 (v4.o14.map blkP), .vec 4 (v4.o15.map vtP), .box [.vec 5 14 (v4.o14.map blkP).length 0 v4.left_0, .vec 4 15 (v4.o15.map vtP).length 0 v4.left_1]]) ?_ (fun env_v4 H_v4 hw_v4 => ?_)
    · refine LW.block ?_
      refine LW.iterB (E := fun x1 : F90_L1 => [(8, .ptr 3 0), (9, .ptr 4 0), (10, .p (.bool false)), (11, .ptr 10 0), (12, .fn 135 [.ptr 10 0] []), (13, .fn 136 [.ptr 10 0] []), (14, .ptr 16 0), (15, .p (.int .i64 x1.n))]) (O := fun x1 => [.dead, .dead, .dead, .box [.zs, .zs], .box [.zs, .zs], .dead, .vec 5 (x1.o6.map blkP), .vec 4 (x1.o7.map vtP), .map (entsOf idP (fun v => .p (.int .i64 v)) x1.o8), .map (entsOf vtP (fun v => .p (.bool v)) x1.o9), .box [.vec 5 6 (x1.o6.map blkP).length 0 (x1.o6.map blkP).length, .vec 4 7 (x1.o7.map vtP).length 0 (x1.o7.map vtP).length, .map 8, .map 9, .p (.int .i64 slot), .p (.bool x1.x_5)], .dead, .dead, .dead, .vec 5 (x1.o14.map blkP), .vec 4 (x1.o15.map vtP), .box [.vec 5 14 (x1.o14.map blkP).length 0 x1.left_0, .vec 4 15 (x1.o15.map vtP).length 0 x1.left_1]]) hb_v4 (Weak.of 17 ⟨rfl, rfl, rfl, rfl, rfl, rfl, rfl, rfl, trivial⟩ rfl rfl rfl (lowObjs_cons rfl (lowObjs_cons rfl (lowObjs_cons rfl (lowObjs_cons rfl (lowObjs_cons rfl (lowObjs_cons rfl (lowObjs_cons rfl (lowObjs_cons rfl (lowObjs_cons (entsLow (fun _ => rfl) _) (lowObjs_cons (entsLow (fun _ => rfl) _) (lowObjs_cons rfl (lowObjs_cons rfl (lowObjs_cons rfl (lowObjs_cons rfl (lowObjs_cons rfl (lowObjs_cons rfl (lowObjs_cons rfl rfl)))))))))))))))))) (fun x1 z_x1 hr hb_x1 => ?_)
      unfold F90_s1 at hr
      refine LW.seq ?_
      refine LW.seq ?_
      refine LW.draw (by kernel_rfl) (by kernel_rfl) ?_
      refine LO.st rfl rfl rfl (LOp.move rfl rfl) ?_
      refine LO.st rfl rfl rfl (LOp.move rfl rfl) ?_
      refine LO.st rfl rfl rfl (LOp.nilCheck rfl rfl) ?_
      refine LO.st rfl rfl rfl (LOp.fieldAddr rfl rfl ft149_0) ?_
      refine LO.st rfl rfl rfl (LOp.fieldAddr rfl rfl ft75_0) ?_
      refine LO.st rfl rfl rfl (LOp.load rfl rfl rfl vt27 rfl rfl) ?_
      refine LO.st rfl rfl rfl (LOp.lenVM rfl rfl rfl (by kernel_rfl)) ?_
      refine LO.st rfl rfl rfl (LOp.move rfl rfl) ?_
      refine LO.st rfl rfl rfl (LOp.nilCheck rfl rfl) ?_
      refine LO.st rfl rfl rfl (LOp.fieldAddr rfl rfl ft149_0) ?_
      refine LO.st rfl rfl rfl (LOp.fieldAddr rfl rfl ft75_1) ?_
      refine LO.st rfl rfl rfl (LOp.load rfl rfl rfl vt68 rfl rfl) ?_
      refine LO.st rfl rfl rfl (LOp.lenVM rfl rfl rfl (by kernel_rfl)) ?_
      refine LO.st rfl rfl rfl (LOp.bin rfl rfl rfl rfl) ?_
      refine LO.st rfl rfl rfl (LOp.bin rfl rfl rfl rfl) ?_
      refine LO.nil ?_
      refine thn_n ?_
      refine LW.cond rfl (fun (g2 : (x1.n != (IntKind.i64.wrap ((x1.o6.length : Int) + (x1.o7.length : Int)))) = true) => ?_) (fun (g2 : (x1.n != (IntKind.i64.wrap ((x1.o6.length : Int) + (x1.o7.length : Int)))) = false) => ?_)
      · -- g2 is True
        have hr := ite_t g2 hr
        refine LW.skip ?_
        refine thn_n ?_
        refine LW.block ?_
        refine LW.seq ?_
        refine LW.draw (by kernel_rfl) (by kernel_rfl) ?_
        refine LO.st rfl rfl rfl (LOp.move rfl rfl) ?_
        refine LO.st rfl rfl rfl (LOp.nilCheck rfl rfl) ?_
        refine LO.st rfl rfl rfl (LOp.fieldAddr rfl rfl ft149_0) ?_
        refine LO.st rfl rfl rfl (LOp.fieldAddr rfl rfl ft75_0) ?_
        refine LO.st rfl rfl rfl (LOp.load rfl rfl rfl vt27 rfl rfl) ?_
        refine LO.st rfl rfl rfl (LOp.lenVM rfl rfl rfl (by kernel_rfl)) ?_
        refine LO.st rfl rfl rfl (LOp.move rfl rfl) ?_
        refine LO.st rfl rfl rfl (LOp.nilCheck rfl rfl) ?_
        refine LO.st rfl rfl rfl (LOp.fieldAddr rfl rfl ft149_0) ?_
        refine LO.st rfl rfl rfl (LOp.fieldAddr rfl rfl ft75_1) ?_
        refine LO.st rfl rfl rfl (LOp.load rfl rfl rfl vt68 rfl rfl) ?_
        refine LO.st rfl rfl rfl (LOp.lenVM rfl rfl rfl (by kernel_rfl)) ?_
        refine LO.st rfl rfl rfl (LOp.bin rfl rfl rfl rfl) ?_
        refine LO.st rfl rfl rfl (LOp.assign rfl rfl) ?_
        refine LO.nil ?_
        refine thn_n ?_
        refine LW.seq ?_
        refine LW.region ?_
        refine LOps.st rfl rfl rfl (LOp.fieldAddr rfl rfl ft75_0) ?_
        refine LOps.st rfl rfl rfl (LOp.load rfl rfl rfl vt27 rfl rfl) ?_
        refine LOps.st rfl rfl rfl (LOp.move rfl rfl) ?_
        obtain ⟨v5, h_v5, hr⟩ := bind_get hr
        refine LOps.st rfl rfl rfl (LOp.call rfl rfl rfl (by kernel_rfl) (cF137 h_v5)) ?_
        refine LOps.st rfl rfl rfl (LOp.fieldAddr rfl rfl ft75_0) ?_
        refine LOps.st rfl rfl rfl (LOp.store rfl rfl rfl rfl vt27 rfl rfl rfl rfl) ?_
        refine LOps.nil ?_
        refine thn_n ?_
        refine LW.region ?_
        refine LOps.st rfl rfl rfl (LOp.fieldAddr rfl rfl ft75_1) ?_
        refine LOps.st rfl rfl rfl (LOp.load rfl rfl rfl vt68 rfl rfl) ?_
        refine LOps.st rfl rfl rfl (LOp.move rfl rfl) ?_
        obtain ⟨v6, h_v6, hr⟩ := bind_get hr
        refine LOps.st rfl rfl rfl (LOp.call rfl rfl rfl (by kernel_rfl) (cF138 h_v6)) ?_
        refine LOps.st rfl rfl rfl (LOp.fieldAddr rfl rfl ft75_1) ?_
        refine LOps.st rfl rfl rfl (LOp.store rfl rfl rfl rfl vt68 rfl rfl rfl rfl) ?_
        refine LOps.nil ?_
        refine inBlk_n ?_
        refine thn_n ?_
        obtain rfl := Option.some.inj hr
        exact ⟨_, rfl, Weak.of 17 ⟨rfl, rfl, rfl, rfl, rfl, rfl, rfl, rfl, trivial⟩ rfl rfl rfl (lowObjs_cons rfl (lowObjs_cons rfl (lowObjs_cons rfl (lowObjs_cons rfl (lowObjs_cons rfl (lowObjs_cons rfl (lowObjs_cons rfl (lowObjs_cons rfl (lowObjs_cons (entsLow (fun _ => rfl) _) (lowObjs_cons (entsLow (fun _ => rfl) _) (lowObjs_cons rfl (lowObjs_cons rfl (lowObjs_cons rfl (lowObjs_cons rfl (lowObjs_cons rfl (lowObjs_cons rfl (lowObjs_cons rfl rfl)))))))))))))))))⟩
      · -- g2 is False
        have hr := ite_f g2 hr
        refine LW.exit ?_
        refine thn_e ?_
        refine thn_e ?_
        refine inBlk_self ?_
        refine thn_n ?_
        obtain rfl := Option.some.inj hr
        have hr := congrArg some (hb_x1 _ rfl)
        obtain rfl := Option.some.inj hr
        exact Weak.of 17 ⟨rfl, rfl, rfl, rfl, rfl, trivial⟩ rfl rfl rfl (lowObjs_cons rfl (lowObjs_cons rfl (lowObjs_cons rfl (lowObjs_cons rfl (lowObjs_cons rfl (lowObjs_cons rfl (lowObjs_cons rfl (lowObjs_cons rfl (lowObjs_cons (entsLow (fun _ => rfl) _) (lowObjs_cons (entsLow (fun _ => rfl) _) (lowObjs_cons rfl (lowObjs_cons rfl (lowObjs_cons rfl (lowObjs_cons rfl (lowObjs_cons rfl (lowObjs_cons rfl (lowObjs_cons rfl rfl)))))))))))))))))
    · have hr := ho_v4
      clear hb_v4
      refine thn_n ?_
      refine LW.weak hw_v4 ?_
      refine LW.seq ?_
      refine LW.drawW (by kernel_rfl) (by kernel_rfl) ?_
      refine LF.st (F := []) (s := none) rfl rfl rfl (fun H _ => LOp.move rfl rfl) rfl ?_
      refine LF.st (F := []) (s := none) rfl rfl rfl (fun H _ => LOp.nilCheck rfl rfl) rfl ?_
      refine LF.st (F := []) (s := none) rfl rfl rfl (fun H _ => LOp.fieldAddr rfl rfl ft149_0) rfl ?_
      refine LF.st rfl rfl rfl (LAt.load rfl rfl rfl vt75 rfl rfl) rfl ?_
      obtain ⟨q3, hr⟩ := grd_get hr
      obtain ⟨q4, hr⟩ := grd_get hr
      refine LF.st rfl rfl rfl (LAt.load rfl rfl rfl vt75 rfl rfl) rfl ?_
      refine LF.st (F := []) (s := none) rfl rfl rfl (fun H _ => LOp.move rfl rfl) rfl ?_
      refine LF.st (F := []) (s := none) rfl rfl rfl (fun H _ => LOp.nilCheck rfl rfl) rfl ?_
      refine LF.st (F := []) (s := none) rfl rfl rfl (fun H _ => LOp.fieldAddr rfl rfl ft149_4) rfl ?_
      refine LF.st rfl rfl rfl (LAt.load rfl rfl rfl vt4 rfl rfl) rfl ?_
      refine LF.st rfl rfl rfl (LAt.store rfl rfl rfl rfl vt75 rfl rfl rfl) rfl ?_
      refine LF.st rfl rfl rfl (LAt.store rfl rfl rfl rfl vt75 rfl rfl rfl) rfl ?_
      refine LF.st (F := []) (s := none) rfl rfl rfl (fun H _ => LOp.assign rfl rfl) rfl ?_
      refine LF.nil ⟨by kernel_rfl, ?_⟩
      refine thn_n ?_
      refine LW.ret ?_
      obtain rfl := Option.some.inj hr
      refine finP_ret (.three (.cellAgg rfl rfl (by kernel_rfl) rfl) (.cellAgg rfl rfl (by kernel_rfl) rfl) (.tmp rfl)) ?_
      exact ⟨_, rfl, (.cons (Conv.agg (.cons (Conv.vecAll rfl rfl rfl) (.cons (Conv.vecAll rfl rfl rfl) .nil))) (.cons (Conv.agg (.cons (Conv.vecTake rfl q3) (.cons (Conv.vecTake rfl q4) .nil))) (.cons Conv.p .nil)))⟩
open Go.Proofs
def F83 : Option Bool :=
  (F125 ).bind fun v1 =>
  (F90 v1 (Vw.mk [] []) (Vw.mk [Bk.mk 2 0 (nm (Bk.mk 1 0 (0, 0) 0)) 0, Bk.mk 1 0 (0, 0) 0] [Vt.mk 0 2 (nm (Bk.mk 2 0 (nm (Bk.mk 1 0 (0, 0) 0)) 0))]) 2).bind fun v2 =>
  bif (v2.1.B.length : Int) == 2 then
    bif (v2.1.V.length : Int) == 1 then
      bif (v2.2.1.B.length : Int) == 0 then
        bif !v2.2.2 then
          (F125 ).bind fun v3 =>
          (F89 v3 v2.1).bind fun v4 =>
          bif v4 then
            (F125 ).bind fun v5 =>
            (F87 v5 (Bk.mk 1 0 (0, 0) 0)).bind fun v6 =>
            bif v6 then
              (F125 ).bind fun v7 =>
              (F87 v7 (Bk.mk 1 1 (0, 0) 0)).bind fun v8 =>
              some (!v8)
            else
              some false
          else
            some false
        else
          some false
      else
        some false
    else
      some false
  else
    some false
set_option maxRecDepth 100000 in
theorem c83 {r_ : Bool} (hr : F83 = some r_) : LPure Try.prog 83 [] [.bool r_] := by
  refine LPure.start Try.func83 rfl rfl rfl rfl ?_
  unfold F83 at hr
  refine LW.seq ?_
  refine LW.region ?_
  refine LOps.st rfl rfl rfl (LOp.assign rfl rfl) ?_
  refine LOps.nil ?_
  refine thn_n ?_
  refine LW.seq ?_
  refine LW.region ?_
  refine LOps.st rfl rfl rfl (LOp.build rfl bt42 rfl rfl rfl) ?_
  refine LOps.st rfl rfl rfl (LOp.alloc rfl zt42 rfl rfl) ?_
  refine LOps.st rfl rfl rfl (LOp.store rfl rfl rfl rfl vt42 rfl rfl rfl rfl) ?_
  refine LOps.nil ?_
  refine thn_n ?_
  refine LW.seq ?_
  refine LW.region ?_
  refine LOps.st rfl rfl rfl (LOp.load rfl rfl rfl vt42 rfl rfl) ?_
  refine LOps.st rfl rfl rfl (LOp.call rfl rfl rfl (by kernel_rfl) (LC.pure (c50 (b := (Bk.mk 1 0 (0, 0) 0))) (.cons Conv.p .nil))) ?_
  refine LOps.st rfl rfl rfl (LOp.build rfl bt42 rfl rfl rfl) ?_
  refine LOps.st rfl rfl rfl (LOp.alloc rfl zt42 rfl rfl) ?_
  refine LOps.st rfl rfl rfl (LOp.store rfl rfl rfl rfl vt42 rfl rfl rfl rfl) ?_
  refine LOps.nil ?_
  refine thn_n ?_
  refine LW.seq ?_
  refine LW.ent (Ent.slot rfl) ?_
  refine LW.ent (Ent.slot rfl) ?_
  refine LW.drawW (by kernel_rfl) (by kernel_rfl) ?_
  obtain ⟨v1, h_v1, hr⟩ := bind_get hr
  refine LF.st (F := []) (s := none) rfl rfl rfl (fun H _ => LOp.call rfl rfl rfl (by kernel_rfl) (LC.pure (c125 h_v1) .nil)) rfl ?_
  refine LF.st (F := []) (s := none) rfl rfl rfl (fun H _ => LOp.build rfl bt75 rfl rfl rfl) rfl ?_
  refine LF.st rfl rfl rfl (LAt.load rfl rfl rfl vt42 rfl rfl) rfl ?_
  refine LF.st rfl rfl rfl (LAt.load rfl rfl rfl vt42 rfl rfl) rfl ?_
  refine LF.st (F := []) (s := none) rfl rfl rfl (fun H _ => LOp.buildSlice rfl st27 rfl rfl rfl rfl rfl) rfl ?_
  refine LF.st rfl rfl rfl (LAt.load rfl rfl rfl vt42 rfl rfl) rfl ?_
  refine LF.st (F := []) (s := none) rfl rfl rfl (fun H _ => LOp.call rfl rfl rfl (by kernel_rfl) (LC.pure (c50 (b := (Bk.mk 2 0 (nm (Bk.mk 1 0 (0, 0) 0)) 0))) (.cons Conv.p .nil))) rfl ?_
  refine LF.st (F := []) (s := none) rfl rfl rfl (fun H _ => LOp.build rfl bt82 rfl rfl rfl) rfl ?_
  refine LF.st (F := []) (s := none) rfl rfl rfl (fun H _ => LOp.buildSlice rfl st68 rfl rfl rfl rfl rfl) rfl ?_
  refine LF.st (F := []) (s := none) rfl rfl rfl (fun H _ => LOp.build rfl bt75 rfl rfl rfl) rfl ?_
  obtain ⟨v2, h_v2, hr⟩ := bind_get hr
  refine LF.st (F := []) (s := none) rfl rfl rfl (fun H _ => LOp.call rfl rfl rfl (by kernel_rfl) (LC.pure (c90 h_v2) (.cons Conv.p (.cons (Conv.agg (.cons Conv.zs (.cons Conv.zs .nil))) (.cons Conv.p (.cons Conv.p .nil)))))) rfl ?_
  refine LF.st (F := []) (s := none) rfl rfl rfl (fun H _ => LOp.move rfl rfl) rfl ?_
  refine LF.st (F := []) (s := none) rfl rfl rfl (fun H _ => LOp.extract rfl rfl rfl) rfl ?_
  refine LF.st (F := []) (s := none) rfl rfl rfl (fun H _ => LOp.extract rfl rfl rfl) rfl ?_
  refine LF.st (F := []) (s := none) rfl rfl rfl (fun H _ => LOp.extract rfl rfl rfl) rfl ?_
  refine LF.st rfl rfl rfl (LAt.alloc rfl zt75 (id := 2) rfl) rfl ?_
  refine LF.st rfl rfl rfl (LAt.alloc rfl zt75 (id := 3) rfl) rfl ?_
  refine LF.st rfl rfl rfl (LAt.store rfl rfl rfl rfl vt75 rfl rfl rfl) rfl ?_
  refine LF.st rfl rfl rfl (LAt.store rfl rfl rfl rfl vt75 rfl rfl rfl) rfl ?_
  refine LF.st (F := []) (s := none) rfl rfl rfl (fun H _ => LOp.assign rfl rfl) rfl ?_
  refine LF.nil ⟨by kernel_rfl, ?_⟩
  refine thn_n ?_
  refine LW.seq ?_
  refine LW.draw (by kernel_rfl) (by kernel_rfl) ?_
  refine LO.st rfl rfl rfl (LOp.fieldAddr rfl rfl ft75_0) ?_
  refine LO.st rfl rfl rfl (LOp.load rfl rfl rfl vt27 rfl rfl) ?_
  refine LO.st rfl rfl rfl (LOp.lenM rfl rfl (by kernel_rfl)) ?_
  refine LO.st rfl rfl rfl (LOp.bin rfl rfl rfl rfl) ?_
  refine LO.st rfl rfl rfl (LOp.move rfl rfl) ?_
  refine LO.cases 29 rfl (fun (g1 : ((v2.1.B.length : Int) == 2) = true) => ?_) (fun (g1 : ((v2.1.B.length : Int) == 2) = false) => ?_)
  · -- g1 is True
    have hr := ite_t g1 hr
    refine LO.gd rfl rfl rfl (gd g1 rfl) rfl (LOp.fieldAddr rfl rfl ft75_1) ?_
    refine LO.gd rfl rfl rfl (gd g1 rfl) rfl (LOp.load rfl rfl rfl vt68 rfl rfl) ?_
    refine LO.gd rfl rfl rfl (gd g1 rfl) rfl (LOp.lenM rfl rfl (by kernel_rfl)) ?_
    refine LO.gd rfl rfl rfl (gd g1 rfl) rfl (LOp.bin rfl rfl rfl rfl) ?_
    refine LO.st rfl rfl rfl (LOp.pickT rfl (gdl g1 rfl) rfl) ?_
    refine LO.st rfl rfl rfl (LOp.move rfl rfl) ?_
    refine LO.cases 35 rfl (fun (g2 : ((v2.1.V.length : Int) == 1) = true) => ?_) (fun (g2 : ((v2.1.V.length : Int) == 1) = false) => ?_)
    · -- g2 is True
      have hr := ite_t g2 hr
      refine LO.gd rfl rfl rfl (gd g2 rfl) rfl (LOp.fieldAddr rfl rfl ft75_0) ?_
      refine LO.gd rfl rfl rfl (gd g2 rfl) rfl (LOp.load rfl rfl rfl vt27 rfl rfl) ?_
      refine LO.gd rfl rfl rfl (gd g2 rfl) rfl (LOp.lenM rfl rfl (by kernel_rfl)) ?_
      refine LO.gd rfl rfl rfl (gd g2 rfl) rfl (LOp.bin rfl rfl rfl rfl) ?_
      refine LO.st rfl rfl rfl (LOp.pickT rfl (gdl g2 rfl) rfl) ?_
      refine LO.st rfl rfl rfl (LOp.move rfl rfl) ?_
      refine LO.cases 41 rfl (fun (g3 : ((v2.2.1.B.length : Int) == 0) = true) => ?_) (fun (g3 : ((v2.2.1.B.length : Int) == 0) = false) => ?_)
      · -- g3 is True
        have hr := ite_t g3 hr
        refine LO.gd rfl rfl rfl (gd g3 rfl) rfl (LOp.move rfl rfl) ?_
        refine LO.gd rfl rfl rfl (gd g3 rfl) rfl (LOp.not rfl rfl) ?_
        refine LO.st rfl rfl rfl (LOp.pickT rfl (gdl g3 rfl) rfl) ?_
        refine LO.st rfl rfl rfl (LOp.move rfl rfl) ?_
        refine LO.cases 45 rfl (fun (g4 : (!v2.2.2) = true) => ?_) (fun (g4 : (!v2.2.2) = false) => ?_)
        · -- g4 is True
          have hr := ite_t g4 hr
          obtain ⟨v3, h_v3, hr⟩ := bind_get hr
          refine LO.gd rfl rfl rfl (gd g4 rfl) rfl (LOp.call rfl rfl rfl (by kernel_rfl) (LC.pure (c125 h_v3) .nil)) ?_
          refine LO.gd rfl rfl rfl (gd g4 rfl) rfl (LOp.load rfl rfl rfl vt75 rfl rfl) ?_
          obtain ⟨v4, h_v4, hr⟩ := bind_get hr
          refine LO.gd rfl rfl rfl (gd g4 rfl) rfl (LOp.call rfl rfl rfl (by kernel_rfl) (LC.pure (c89 h_v4) (.cons Conv.p (.cons Conv.p .nil)))) ?_
          refine LO.st rfl rfl rfl (LOp.pickT rfl (gdl g4 rfl) rfl) ?_
          refine LO.st rfl rfl rfl (LOp.move rfl rfl) ?_
          refine LO.cases 50 rfl (fun (g5 : v4 = true) => ?_) (fun (g5 : v4 = false) => ?_)
          · -- g5 is True
            have hr := ite_t g5 hr
            obtain ⟨v5, h_v5, hr⟩ := bind_get hr
            refine LO.gd rfl rfl rfl (gd g5 rfl) rfl (LOp.call rfl rfl rfl (by kernel_rfl) (LC.pure (c125 h_v5) .nil)) ?_
            refine LO.gd rfl rfl rfl (gd g5 rfl) rfl (LOp.load rfl rfl rfl vt42 rfl rfl) ?_
            obtain ⟨v6, h_v6, hr⟩ := bind_get hr
            refine LO.gd rfl rfl rfl (gd g5 rfl) rfl (LOp.call rfl rfl rfl (by kernel_rfl) (LC.pure (c87 h_v6) (.cons Conv.p (.cons Conv.p .nil)))) ?_
            refine LO.st rfl rfl rfl (LOp.pickT rfl (gdl g5 rfl) rfl) ?_
            refine LO.st rfl rfl rfl (LOp.move rfl rfl) ?_
            refine LO.cases 55 rfl (fun (g6 : v6 = true) => ?_) (fun (g6 : v6 = false) => ?_)
            · -- g6 is True
              have hr := ite_t g6 hr
              obtain ⟨v7, h_v7, hr⟩ := bind_get hr
              refine LO.gd rfl rfl rfl (gd g6 rfl) rfl (LOp.call rfl rfl rfl (by kernel_rfl) (LC.pure (c125 h_v7) .nil)) ?_
              refine LO.gd rfl rfl rfl (gd g6 rfl) rfl (LOp.build rfl bt42 rfl rfl rfl) ?_
              obtain ⟨v8, h_v8, hr⟩ := bind_get hr
              refine LO.gd rfl rfl rfl (gd g6 rfl) rfl (LOp.call rfl rfl rfl (by kernel_rfl) (LC.pure (c87 h_v8) (.cons Conv.p (.cons Conv.p .nil)))) ?_
              refine LO.gd rfl rfl rfl (gd g6 rfl) rfl (LOp.not rfl rfl) ?_
              refine LO.st rfl rfl rfl (LOp.pickT rfl (gdl g6 rfl) rfl) ?_
              refine LO.st rfl rfl rfl (LOp.assign rfl rfl) ?_
              refine LO.nil ?_
              refine thn_n ?_
              refine LW.ret ?_
              obtain rfl := Option.some.inj hr
              refine finP_ret (.one (.tmp rfl)) ?_
              exact Conv.p
            · -- g6 is False
              have hr := ite_f g6 hr
              refine LO.sk rfl rfl rfl (gd g6 rfl) rfl rfl ?_
              refine LO.sk rfl rfl rfl (gd g6 rfl) rfl rfl ?_
              refine LO.sk rfl rfl rfl (gd g6 rfl) rfl rfl ?_
              refine LO.sk rfl rfl rfl (gd g6 rfl) rfl rfl ?_
              refine LO.st rfl rfl rfl (LOp.pickF rfl (gdl g6 rfl) rfl) ?_
              refine LO.st rfl rfl rfl (LOp.assign rfl rfl) ?_
              refine LO.nil ?_
              refine thn_n ?_
              refine LW.ret ?_
              obtain rfl := Option.some.inj hr
              refine finP_ret (.one (.tmp rfl)) ?_
              exact Conv.p
          · -- g5 is False
            have hr := ite_f g5 hr
            refine LO.sk rfl rfl rfl (gd g5 rfl) rfl rfl ?_
            refine LO.sk rfl rfl rfl (gd g5 rfl) rfl rfl ?_
            refine LO.sk rfl rfl rfl (gd g5 rfl) rfl rfl ?_
            refine LO.st rfl rfl rfl (LOp.pickF rfl (gdl g5 rfl) rfl) ?_
            refine LO.st rfl rfl rfl (LOp.move rfl rfl) ?_
            refine LO.sk rfl rfl rfl rfl rfl rfl ?_
            refine LO.sk rfl rfl rfl rfl rfl rfl ?_
            refine LO.sk rfl rfl rfl rfl rfl rfl ?_
            refine LO.sk rfl rfl rfl rfl rfl rfl ?_
            refine LO.st rfl rfl rfl (LOp.pickF rfl rfl rfl) ?_
            refine LO.st rfl rfl rfl (LOp.assign rfl rfl) ?_
            refine LO.nil ?_
            refine thn_n ?_
            refine LW.ret ?_
            obtain rfl := Option.some.inj hr
            refine finP_ret (.one (.tmp rfl)) ?_
            exact Conv.p
        · -- g4 is False
          have hr := ite_f g4 hr
          refine LO.sk rfl rfl rfl (gd g4 rfl) rfl rfl ?_
          refine LO.sk rfl rfl rfl (gd g4 rfl) rfl rfl ?_
          refine LO.sk rfl rfl rfl (gd g4 rfl) rfl rfl ?_
          refine LO.st rfl rfl rfl (LOp.pickF rfl (gdl g4 rfl) rfl) ?_
          refine LO.st rfl rfl rfl (LOp.move rfl rfl) ?_
          refine LO.sk rfl rfl rfl rfl rfl rfl ?_
          refine LO.sk rfl rfl rfl rfl rfl rfl ?_
          refine LO.sk rfl rfl rfl rfl rfl rfl ?_
          refine LO.st rfl rfl rfl (LOp.pickF rfl rfl rfl) ?_
          refine LO.st rfl rfl rfl (LOp.move rfl rfl) ?_
          refine LO.sk rfl rfl rfl rfl rfl rfl ?_
          refine LO.sk rfl rfl rfl rfl rfl rfl ?_
          refine LO.sk rfl rfl rfl rfl rfl rfl ?_
          refine LO.sk rfl rfl rfl rfl rfl rfl ?_
          refine LO.st rfl rfl rfl (LOp.pickF rfl rfl rfl) ?_
          refine LO.st rfl rfl rfl (LOp.assign rfl rfl) ?_
          refine LO.nil ?_
          refine thn_n ?_
          refine LW.ret ?_
          obtain rfl := Option.some.inj hr
          refine finP_ret (.one (.tmp rfl)) ?_
          exact Conv.p
      · -- g3 is False
        have hr := ite_f g3 hr
        refine LO.sk rfl rfl rfl (gd g3 rfl) rfl rfl ?_
        refine LO.sk rfl rfl rfl (gd g3 rfl) rfl rfl ?_
        refine LO.st rfl rfl rfl (LOp.pickF rfl (gdl g3 rfl) rfl) ?_
        refine LO.st rfl rfl rfl (LOp.move rfl rfl) ?_
        refine LO.sk rfl rfl rfl rfl rfl rfl ?_
        refine LO.sk rfl rfl rfl rfl rfl rfl ?_
        refine LO.sk rfl rfl rfl rfl rfl rfl ?_
        refine LO.st rfl rfl rfl (LOp.pickF rfl rfl rfl) ?_
        refine LO.st rfl rfl rfl (LOp.move rfl rfl) ?_
        refine LO.sk rfl rfl rfl rfl rfl rfl ?_
        refine LO.sk rfl rfl rfl rfl rfl rfl ?_
        refine LO.sk rfl rfl rfl rfl rfl rfl ?_
        refine LO.st rfl rfl rfl (LOp.pickF rfl rfl rfl) ?_
        refine LO.st rfl rfl rfl (LOp.move rfl rfl) ?_
        refine LO.sk rfl rfl rfl rfl rfl rfl ?_
        refine LO.sk rfl rfl rfl rfl rfl rfl ?_
        refine LO.sk rfl rfl rfl rfl rfl rfl ?_
        refine LO.sk rfl rfl rfl rfl rfl rfl ?_
        refine LO.st rfl rfl rfl (LOp.pickF rfl rfl rfl) ?_
        refine LO.st rfl rfl rfl (LOp.assign rfl rfl) ?_
        refine LO.nil ?_
        refine thn_n ?_
        refine LW.ret ?_
        obtain rfl := Option.some.inj hr
        refine finP_ret (.one (.tmp rfl)) ?_
        exact Conv.p
    · -- g2 is False
      have hr := ite_f g2 hr
      refine LO.sk rfl rfl rfl (gd g2 rfl) rfl rfl ?_
      refine LO.sk rfl rfl rfl (gd g2 rfl) rfl rfl ?_
      refine LO.sk rfl rfl rfl (gd g2 rfl) rfl rfl ?_
      refine LO.sk rfl rfl rfl (gd g2 rfl) rfl rfl ?_
      refine LO.st rfl rfl rfl (LOp.pickF rfl (gdl g2 rfl) rfl) ?_
      refine LO.st rfl rfl rfl (LOp.move rfl rfl) ?_
      refine LO.sk rfl rfl rfl rfl rfl rfl ?_
      refine LO.sk rfl rfl rfl rfl rfl rfl ?_
      refine LO.st rfl rfl rfl (LOp.pickF rfl rfl rfl) ?_
      refine LO.st rfl rfl rfl (LOp.move rfl rfl) ?_
      refine LO.sk rfl rfl rfl rfl rfl rfl ?_
      refine LO.sk rfl rfl rfl rfl rfl rfl ?_
      refine LO.sk rfl rfl rfl rfl rfl rfl ?_
      refine LO.st rfl rfl rfl (LOp.pickF rfl rfl rfl) ?_
      refine LO.st rfl rfl rfl (LOp.move rfl rfl) ?_
      refine LO.sk rfl rfl rfl rfl rfl rfl ?_
      refine LO.sk rfl rfl rfl rfl rfl rfl ?_
      refine LO.sk rfl rfl rfl rfl rfl rfl ?_
      refine LO.st rfl rfl rfl (LOp.pickF rfl rfl rfl) ?_
      refine LO.st rfl rfl rfl (LOp.move rfl rfl) ?_
      refine LO.sk rfl rfl rfl rfl rfl rfl ?_
      refine LO.sk rfl rfl rfl rfl rfl rfl ?_
      refine LO.sk rfl rfl rfl rfl rfl rfl ?_
      refine LO.sk rfl rfl rfl rfl rfl rfl ?_
      refine LO.st rfl rfl rfl (LOp.pickF rfl rfl rfl) ?_
      refine LO.st rfl rfl rfl (LOp.assign rfl rfl) ?_
      refine LO.nil ?_
      refine thn_n ?_
      refine LW.ret ?_
      obtain rfl := Option.some.inj hr
      refine finP_ret (.one (.tmp rfl)) ?_
      exact Conv.p
  · -- g1 is False
    have hr := ite_f g1 hr
    refine LO.sk rfl rfl rfl (gd g1 rfl) rfl rfl ?_
    refine LO.sk rfl rfl rfl (gd g1 rfl) rfl rfl ?_
    refine LO.sk rfl rfl rfl (gd g1 rfl) rfl rfl ?_
    refine LO.sk rfl rfl rfl (gd g1 rfl) rfl rfl ?_
    refine LO.st rfl rfl rfl (LOp.pickF rfl (gdl g1 rfl) rfl) ?_
    refine LO.st rfl rfl rfl (LOp.move rfl rfl) ?_
    refine LO.sk rfl rfl rfl rfl rfl rfl ?_
    refine LO.sk rfl rfl rfl rfl rfl rfl ?_
    refine LO.sk rfl rfl rfl rfl rfl rfl ?_
    refine LO.sk rfl rfl rfl rfl rfl rfl ?_
    refine LO.st rfl rfl rfl (LOp.pickF rfl rfl rfl) ?_
    refine LO.st rfl rfl rfl (LOp.move rfl rfl) ?_
    refine LO.sk rfl rfl rfl rfl rfl rfl ?_
    refine LO.sk rfl rfl rfl rfl rfl rfl ?_
    refine LO.st rfl rfl rfl (LOp.pickF rfl rfl rfl) ?_
    refine LO.st rfl rfl rfl (LOp.move rfl rfl) ?_
    refine LO.sk rfl rfl rfl rfl rfl rfl ?_
    refine LO.sk rfl rfl rfl rfl rfl rfl ?_
    refine LO.sk rfl rfl rfl rfl rfl rfl ?_
    refine LO.st rfl rfl rfl (LOp.pickF rfl rfl rfl) ?_
    refine LO.st rfl rfl rfl (LOp.move rfl rfl) ?_
    refine LO.sk rfl rfl rfl rfl rfl rfl ?_
    refine LO.sk rfl rfl rfl rfl rfl rfl ?_
    refine LO.sk rfl rfl rfl rfl rfl rfl ?_
    refine LO.st rfl rfl rfl (LOp.pickF rfl rfl rfl) ?_
    refine LO.st rfl rfl rfl (LOp.move rfl rfl) ?_
    refine LO.sk rfl rfl rfl rfl rfl rfl ?_
    refine LO.sk rfl rfl rfl rfl rfl rfl ?_
    refine LO.sk rfl rfl rfl rfl rfl rfl ?_
    refine LO.sk rfl rfl rfl rfl rfl rfl ?_
    refine LO.st rfl rfl rfl (LOp.pickF rfl rfl rfl) ?_
    refine LO.st rfl rfl rfl (LOp.assign rfl rfl) ?_
    refine LO.nil ?_
    refine thn_n ?_
    refine LW.ret ?_
    obtain rfl := Option.some.inj hr
    refine finP_ret (.one (.tmp rfl)) ?_
    exact Conv.p
end Go.Mg
