/- shuffle.At, Back, Perm. References of trees and cursors. Duties: what stands alone. duty.those: a closure. Sums of weights, and lists, over closures. Committees over closures. marigoldref04. Duties: the reference, the proposer. duty.Total, Weight, Committee, In. Conditions: none. -/
import Derived.Test.YtabjakfgaodocaaGreatX4
import Derived.Test.YtabjakfgaodocaaGreatX2
import Derived.Test.YtabjakfgaodocaaGreatX3
namespace Go.Mg
open Go.Proofs
def dk0 : Dk := ⟨fun _ => false, 0⟩
structure F102_L1 where
  i : Int
  t6 : Int
  d : Dk
def F102_s1 (seed : Int) (n : Int) (x1 : F102_L1) : Option (F102_L1 ⊕ F102_L1) :=
  bif decide (x1.t6 < 10) then
    bif turnOk n x1.t6 then
      some (.inl (F102_L1.mk (turnOf seed n x1.t6 x1.i) (IntKind.i64.wrap (x1.t6 + 1)) (x1.d.turned x1.t6)))
    else none
  else
    some (.inr (F102_L1.mk x1.i x1.t6 x1.d))
def F102 (seed : Int) (n : Int) (i : Int) (d : Dk) : Option (Int × Dk) :=
  (iter (F102_s1 seed n) big (F102_L1.mk i 0 d)).bind fun v1 =>
  some (v1.i, v1.d)
set_option maxRecDepth 100000 in
theorem cF102 {seed : Int} {n : Int} {i : Int} {d : Dk} {r_ : Int × Dk} (hr : F102 seed n i d = some r_) : LC Tryz.prog 130 [.ptr 0 0, .p (.int .i64 i)] [.box (deckS seed n d)] (Is (.p (.int .i64 r_.1)) [.box (deckS seed n r_.2)]) := by
  refine LC.start Tryz.func130 rfl rfl rfl ?_
  unfold F102 at hr
  refine LW.seq (LW.region (LOps.st rfl rfl rfl (LOp.assign rfl rfl) (LOps.nil (thn_n (LW.seq (LW.seq (LW.region (LOps.st rfl rfl rfl (LOp.move rfl rfl) (LOps.nil (thn_n ?_))))))))))
  obtain ⟨v1, hb_v1, ho_v1⟩ := bind_get hr
  clear hr
  refine LW.tail (E := [(1, .p (.int .i64 v1.i)), (4, .p (.int .i64 0))]) (O := [.box (deckS seed n v1.d)]) ?_ (fun env_v1 H_v1 hw_v1 => ?_)
  · refine LW.block ?_
    refine LW.iterB (E := fun x1 : F102_L1 => [(0, .ptr 0 0), (1, .p (.int .i64 x1.i)), (4, .p (.int .i64 0)), (6, .p (.int .i64 x1.t6))]) (O := fun x1 => [.box (deckS seed n x1.d)]) hb_v1 (Weak.of 1 ⟨rfl, rfl, rfl, rfl, trivial⟩ rfl rfl rfl rfl) (fun x1 z_x1 hr hb_x1 => ?_)
    unfold F102_s1 at hr
    refine LW.seq (LW.region (LOps.st rfl rfl rfl (LOp.bin rfl rfl rfl rfl) (LOps.nil (thn_n (LW.seq ?_)))))
    refine LW.cond rfl (fun (g1 : (decide (x1.t6 < 10)) = true) => ?_) (fun (g1 : (decide (x1.t6 < 10)) = false) => ?_)
    ·
      have hr := ite_t g1 hr
      refine LW.skip (thn_n (LW.seq (LW.block (LW.seq (LW.region (LOps.st rfl rfl rfl (LOp.move rfl rfl) (LOps.st rfl rfl rfl (LOp.assign rfl rfl) (LOps.nil (thn_n (LW.region (LOps.st rfl rfl rfl (LOp.move rfl rfl) ?_)))))))))))
      refine LOps.st rfl rfl rfl (LOp.move rfl rfl) (LOps.st rfl rfl rfl (LOp.move rfl rfl) ?_)
      obtain ⟨q1, hr⟩ := grd_get hr
      refine LOps.st rfl rfl rfl (LOp.call rfl rfl rfl (by kernel_rfl) (c105 q1)) (LOps.st rfl rfl rfl (LOp.assign rfl rfl) (LOps.nil (inBlk_n (thn_n (LW.region (LOps.st rfl rfl rfl (LOp.bin rfl rfl rfl rfl) (LOps.st rfl rfl rfl (LOp.move rfl rfl) (LOps.nil (thn_n ?_)))))))))
      obtain rfl := Option.some.inj hr
      exact ⟨_, rfl, Weak.of 1 ⟨rfl, rfl, rfl, rfl, trivial⟩ rfl rfl rfl rfl⟩
    ·
      have hr := ite_f g1 hr
      refine LW.exit (thn_e (thn_e (inBlk_self (thn_n ?_))))
      obtain rfl := Option.some.inj hr
      have hr := congrArg some (hb_x1 _ rfl)
      obtain rfl := Option.some.inj hr
      exact Weak.of 1 ⟨rfl, rfl, trivial⟩ rfl rfl rfl rfl
  · have hr := ho_v1
    clear hb_v1
    refine thn_n (LW.weak hw_v1 (LW.seq (LW.region (LOps.st rfl rfl rfl (LOp.move rfl rfl) (LOps.st rfl rfl rfl (LOp.assign rfl rfl) (LOps.nil (thn_n (LW.ret ?_))))))))
    obtain rfl := Option.some.inj hr
    refine fin_ret (.one (.tmp rfl)) ?_
    exact ⟨rfl, rfl⟩
def F101 (n : Int) (i : Int) : Option Bool :=
  bif decide (n > 0) then
    bif decide (n ≤ 1000) then
      bif decide (i ≥ 0) then
        some (decide (i < n))
      else
        some false
    else
      some false
  else
    some false
set_option maxRecDepth 100000 in
theorem c101 {n : Int} {i : Int} {r_ : Bool} (hr : F101 n i = some r_) : LPure Tryz.prog 129 [.int .i64 n, .int .i64 i] [.bool r_] := by
  refine LPure.start Tryz.func129 rfl rfl rfl rfl ?_
  unfold F101 at hr
  refine LW.seq (LW.region (LOps.st rfl rfl rfl (LOp.assign rfl rfl) (LOps.nil (thn_n (LW.seq (LW.region (LOps.st rfl rfl rfl (LOp.move rfl rfl) (LOps.st rfl rfl rfl (LOp.bin rfl rfl rfl rfl) (LOps.st rfl rfl rfl (LOp.move rfl rfl) ?_)))))))))
  refine LOps.cases 7 rfl (fun (g1 : (decide (n > 0)) = true) => ?_) (fun (g1 : (decide (n > 0)) = false) => ?_)
  ·
    have hr := ite_t g1 hr
    refine LOps.gd rfl rfl rfl (gd g1 rfl) rfl (LOp.move rfl rfl) (LOps.gd rfl rfl rfl (gd g1 rfl) rfl (LOp.bin rfl rfl rfl rfl) (LOps.st rfl rfl rfl (LOp.pickT rfl (gdl g1 rfl) rfl) (LOps.st rfl rfl rfl (LOp.move rfl rfl) ?_)))
    refine LOps.cases 11 rfl (fun (g2 : (decide (n ≤ 1000)) = true) => ?_) (fun (g2 : (decide (n ≤ 1000)) = false) => ?_)
    ·
      have hr := ite_t g2 hr
      refine LOps.gd rfl rfl rfl (gd g2 rfl) rfl (LOp.move rfl rfl) (LOps.gd rfl rfl rfl (gd g2 rfl) rfl (LOp.bin rfl rfl rfl rfl) (LOps.st rfl rfl rfl (LOp.pickT rfl (gdl g2 rfl) rfl) (LOps.st rfl rfl rfl (LOp.move rfl rfl) ?_)))
      refine LOps.cases 15 rfl (fun (g3 : (decide (i ≥ 0)) = true) => ?_) (fun (g3 : (decide (i ≥ 0)) = false) => ?_)
      ·
        have hr := ite_t g3 hr
        refine LOps.gd rfl rfl rfl (gd g3 rfl) rfl (LOp.move rfl rfl) (LOps.gd rfl rfl rfl (gd g3 rfl) rfl (LOp.move rfl rfl) (LOps.gd rfl rfl rfl (gd g3 rfl) rfl (LOp.bin rfl rfl rfl rfl) (LOps.st rfl rfl rfl (LOp.pickT rfl (gdl g3 rfl) rfl) (LOps.st rfl rfl rfl (LOp.assign rfl rfl) (LOps.nil (thn_n (LW.ret ?_)))))))
        obtain rfl := Option.some.inj hr
        refine finP_ret (.one (.tmp rfl)) ?_
        exact Conv.p
      ·
        have hr := ite_f g3 hr
        refine LOps.sk rfl rfl rfl (gd g3 rfl) rfl rfl (LOps.sk rfl rfl rfl (gd g3 rfl) rfl rfl (LOps.sk rfl rfl rfl (gd g3 rfl) rfl rfl (LOps.st rfl rfl rfl (LOp.pickF rfl (gdl g3 rfl) rfl) (LOps.st rfl rfl rfl (LOp.assign rfl rfl) (LOps.nil (thn_n (LW.ret ?_)))))))
        obtain rfl := Option.some.inj hr
        refine finP_ret (.one (.tmp rfl)) ?_
        exact Conv.p
    ·
      have hr := ite_f g2 hr
      refine LOps.sk rfl rfl rfl (gd g2 rfl) rfl rfl (LOps.sk rfl rfl rfl (gd g2 rfl) rfl rfl (LOps.st rfl rfl rfl (LOp.pickF rfl (gdl g2 rfl) rfl) (LOps.st rfl rfl rfl (LOp.move rfl rfl) (LOps.sk rfl rfl rfl rfl rfl rfl (LOps.sk rfl rfl rfl rfl rfl rfl (LOps.sk rfl rfl rfl rfl rfl rfl (LOps.st rfl rfl rfl (LOp.pickF rfl rfl rfl) (LOps.st rfl rfl rfl (LOp.assign rfl rfl) (LOps.nil (thn_n (LW.ret ?_)))))))))))
      obtain rfl := Option.some.inj hr
      refine finP_ret (.one (.tmp rfl)) ?_
      exact Conv.p
  ·
    have hr := ite_f g1 hr
    refine LOps.sk rfl rfl rfl (gd g1 rfl) rfl rfl (LOps.sk rfl rfl rfl (gd g1 rfl) rfl rfl (LOps.st rfl rfl rfl (LOp.pickF rfl (gdl g1 rfl) rfl) (LOps.st rfl rfl rfl (LOp.move rfl rfl) (LOps.sk rfl rfl rfl rfl rfl rfl (LOps.sk rfl rfl rfl rfl rfl rfl (LOps.st rfl rfl rfl (LOp.pickF rfl rfl rfl) (LOps.st rfl rfl rfl (LOp.move rfl rfl) (LOps.sk rfl rfl rfl rfl rfl rfl (LOps.sk rfl rfl rfl rfl rfl rfl (LOps.sk rfl rfl rfl rfl rfl rfl (LOps.st rfl rfl rfl (LOp.pickF rfl rfl rfl) ?_)))))))))))
    refine LOps.st rfl rfl rfl (LOp.assign rfl rfl) (LOps.nil (thn_n (LW.ret ?_)))
    obtain rfl := Option.some.inj hr
    refine finP_ret (.one (.tmp rfl)) ?_
    exact Conv.p
structure F60_L1 where
  t19 : Int
  d : Dk
  l : List Int
def F60_s1 (seed : Int) (n : Int) (x1 : F60_L1) : Option (F60_L1 ⊕ F60_L1) :=
  bif decide (x1.t19 < ((List.replicate n.toNat (0 : Int)).length : Int)) then
    (F102 seed n x1.t19 x1.d).bind fun v3 =>
    (ix x1.l x1.t19).bind fun _ =>
    some (.inl (F60_L1.mk (IntKind.i64.wrap (x1.t19 + 1)) v3.2 (x1.l.set x1.t19.toNat v3.1)))
  else
    some (.inr (F60_L1.mk x1.t19 x1.d x1.l))
def F60 (seed : Int) (n : Int) : Option (List Int) :=
  (F101 n 0).bind fun v1 =>
  bif !v1 then
    some []
  else
    bif mkOk n 8 then
      (iter (F60_s1 seed n) big (F60_L1.mk 0 dk0 (List.replicate n.toNat (0 : Int)))).bind fun v2 =>
      bif decide (v2.d.k < n) then
        some []
      else
        some v2.l
    else none
set_option maxRecDepth 100000 in
theorem c60 {seed : Int} {n : Int} {r_ : (List Int)} (hr : F60 seed n = some r_) : LPure Tryz.prog 104 [.int .u64 seed, .int .i64 n] [.slice 1 (r_.map i64P)] := by
  refine LPure.start Tryz.func104 rfl rfl rfl rfl ?_
  unfold F60 at hr
  refine LW.seq (LW.region (LOps.st rfl rfl rfl (LOp.assign rfl rfl) (LOps.nil (thn_n (LW.seq (LW.seq (LW.region (LOps.st rfl rfl rfl (LOp.move rfl rfl) ?_))))))))
  obtain ⟨v1, h_v1, hr⟩ := bind_get hr
  refine LOps.st rfl rfl rfl (LOp.call rfl rfl rfl (by kernel_rfl) (LC.pure (c101 h_v1) (.cons Conv.p (.cons Conv.p .nil)))) (LOps.st rfl rfl rfl (LOp.not rfl rfl) (LOps.nil (thn_n ?_)))
  refine LW.cond rfl (fun (g1 : (!v1) = true) => ?_) (fun (g1 : (!v1) = false) => ?_)
  ·
    have hr := ite_t g1 hr
    refine LW.seq (LW.region (LOps.st rfl rfl rfl (LOp.assign rfl rfl) (LOps.nil (thn_n (LW.ret (thn_r ?_))))))
    obtain rfl := Option.some.inj hr
    refine finP_ret (.one (.tmp rfl)) ?_
    exact Conv.zs
  ·
    have hr := ite_f g1 hr
    refine LW.skip (thn_n (LW.seq (LW.region (LOps.st rfl rfl rfl (LOp.move rfl rfl) (LOps.st rfl rfl rfl (LOp.move rfl rfl) (LOps.st rfl rfl rfl (LOp.build rfl bt120 rfl rfl rfl) (LOps.st rfl rfl rfl (LOp.box (H' := [.box (deckS seed n dk0)]) rfl rfl rfl rfl rfl) (LOps.st rfl rfl rfl (LOp.assign rfl rfl) (LOps.nil (thn_n (LW.seq ?_)))))))))))
    refine LW.region (LOps.st rfl rfl rfl (LOp.move rfl rfl) ?_)
    obtain ⟨q1, hr⟩ := grd_get hr
    refine LOps.st rfl rfl rfl (LOp.makeSliceX i64P 0 rfl rfl rfl st49 (z := .int .i64 0) (by kernel_rfl) rfl q1 rfl rfl) (LOps.st rfl rfl rfl (LOp.assign rfl rfl) (LOps.nil (thn_n (LW.seq (LW.seq (LW.region (LOps.st rfl rfl rfl (LOp.move rfl rfl) (LOps.st rfl rfl rfl (LOp.lenVM rfl rfl rfl (by kernel_rfl)) (LOps.st rfl rfl rfl (LOp.move rfl rfl) (LOps.nil (thn_n ?_)))))))))))
    obtain ⟨v2, hb_v2, ho_v2⟩ := bind_get hr
    clear hr
    refine LW.tail (E := [(1, .p (.int .i64 n)), (4, .zs), (5, .ptr 0 0), (6, .vec 1 1 (v2.l.map i64P).length 0 (v2.l.map i64P).length)]) (O := [.box (deckS seed n v2.d), .vec 1 (v2.l.map i64P)]) ?_ (fun env_v2 H_v2 hw_v2 => ?_)
    · refine LW.block ?_
      refine LW.iterB (E := fun x1 : F60_L1 => [(1, .p (.int .i64 n)), (4, .zs), (5, .ptr 0 0), (6, .vec 1 1 (x1.l.map i64P).length 0 (x1.l.map i64P).length), (18, .p (.int .i64 ((List.replicate n.toNat (0 : Int)).length : Int))), (19, .p (.int .i64 x1.t19))]) (O := fun x1 => [.box (deckS seed n x1.d), .vec 1 (x1.l.map i64P)]) hb_v2 (Weak.of 2 ⟨rfl, rfl, rfl, rfl, rfl, rfl, trivial⟩ rfl rfl rfl rfl) (fun x1 z_x1 hr hb_x1 => ?_)
      unfold F60_s1 at hr
      refine LW.seq (LW.region (LOps.st rfl rfl rfl (LOp.bin rfl rfl rfl rfl) (LOps.nil (thn_n (LW.seq ?_)))))
      refine LW.cond rfl (fun (g2 : (decide (x1.t19 < ((List.replicate n.toNat (0 : Int)).length : Int))) = true) => ?_) (fun (g2 : (decide (x1.t19 < ((List.replicate n.toNat (0 : Int)).length : Int))) = false) => ?_)
      ·
        have hr := ite_t g2 hr
        refine LW.skip (thn_n (LW.seq (LW.block (LW.seq (LW.region (LOps.st rfl rfl rfl (LOp.move rfl rfl) (LOps.st rfl rfl rfl (LOp.assign rfl rfl) (LOps.nil (thn_n (LW.region (LOps.st rfl rfl rfl (LOp.move rfl rfl) ?_)))))))))))
        refine LOps.st rfl rfl rfl (LOp.move rfl rfl) (LOps.st rfl rfl rfl (LOp.move rfl rfl) (LOps.st rfl rfl rfl (LOp.move rfl rfl) ?_))
        obtain ⟨v3, h_v3, hr⟩ := bind_get hr
        refine LOps.st rfl rfl rfl (LOp.call rfl rfl rfl (by kernel_rfl) (LC.pre (cF102 h_v3) rfl rfl rfl)) ?_
        obtain ⟨y1, h_y1, hr⟩ := bind_get hr
        refine LOps.st rfl rfl rfl (LOp.indexAddrVX rfl rfl rfl rfl st49 h_y1) ?_
        refine LOps.st rfl rfl rfl (LOp.storeVX (f := i64P) (l := x1.l) v3.1 rfl rfl rfl rfl vt3 (fun _ => rfl) h_y1 rfl) ?_
        refine LOps.nil (inBlk_n (thn_n (LW.region (LOps.st rfl rfl rfl (LOp.bin rfl rfl rfl rfl) (LOps.st rfl rfl rfl (LOp.move rfl rfl) (LOps.nil (thn_n ?_)))))))
        obtain rfl := Option.some.inj hr
        exact ⟨_, rfl, Weak.of 2 ⟨rfl, rfl, rfl, (vset (rfl)), rfl, rfl, trivial⟩ rfl rfl rfl rfl⟩
      ·
        have hr := ite_f g2 hr
        refine LW.exit (thn_e (thn_e (inBlk_self (thn_n ?_))))
        obtain rfl := Option.some.inj hr
        have hr := congrArg some (hb_x1 _ rfl)
        obtain rfl := Option.some.inj hr
        exact Weak.of 2 ⟨rfl, rfl, rfl, rfl, trivial⟩ rfl rfl rfl rfl
    · have hr := ho_v2
      clear hb_v2
      refine thn_n (LW.weak hw_v2 (LW.seq (LW.seq (LW.region (LOps.st rfl rfl rfl (LOp.move rfl rfl) (LOps.st rfl rfl rfl (LOp.nilCheck rfl rfl) (LOps.st rfl rfl rfl (LOp.fieldAddr rfl rfl ft120_3) (LOps.st rfl rfl rfl (LOp.call rfl rfl rfl (by kernel_rfl) (c106 (off := 52) rfl rfl)) (LOps.st rfl rfl rfl (LOp.move rfl rfl) (LOps.st rfl rfl rfl (LOp.bin rfl rfl rfl rfl) (LOps.nil ?_)))))))))))
      refine thn_n ?_
      refine LW.cond rfl (fun (g3 : (decide (v2.d.k < n)) = true) => ?_) (fun (g3 : (decide (v2.d.k < n)) = false) => ?_)
      ·
        have hr := ite_t g3 hr
        refine LW.seq (LW.region (LOps.st rfl rfl rfl (LOp.assign rfl rfl) (LOps.nil (thn_n (LW.ret (thn_r ?_))))))
        obtain rfl := Option.some.inj hr
        refine finP_ret (.one (.tmp rfl)) ?_
        exact Conv.zs
      ·
        have hr := ite_f g3 hr
        refine LW.skip (thn_n (LW.seq (LW.region (LOps.st rfl rfl rfl (LOp.move rfl rfl) (LOps.st rfl rfl rfl (LOp.assign rfl rfl) (LOps.nil (thn_n (LW.ret ?_))))))))
        obtain rfl := Option.some.inj hr
        refine finP_ret (.one (.tmp rfl)) ?_
        exact (Conv.vecAll rfl rfl rfl)
open Go.Proofs
structure F98_L1 where
  i : Int
structure F100_L1 where
  a : Int
  b : Int
  i : Int
structure F97_L1 where
  i : Int
  out : List ID
structure F96_L1 where
  i : Int
structure F48_L1 where
  i : Int
  id : ID
  out : List ID
open Go.Proofs
structure F109_L1 where
  m : Int
  i : Int
def F109_s1 (x : List Int) (x1 : F109_L1) : Option (F109_L1 ⊕ F109_L1) :=
  bif decide (x1.i < (x.length : Int)) then
    (ix x x1.i).bind fun y2 =>
    some (.inl (F109_L1.mk (if y2 < x1.m then y2 else x1.m) (IntKind.i64.wrap (x1.i + 1))))
  else
    some (.inr (F109_L1.mk x1.m x1.i))
def F109 (x : List Int) : Option Int :=
  bif decide ((x.length : Int) < 1) then
    none
  else
    (ix x 0).bind fun y1 =>
    (iter (F109_s1 x) big (F109_L1.mk y1 1)).bind fun v1 =>
    some v1.m
set_option maxRecDepth 100000 in
theorem c109 {x : List Int} {r_ : Int} (hr : F109 x = some r_) : LPure Tryz.prog 60 [.slice 1 (x.map i64P)] [.int .i64 r_] := by
  refine LPure.start Tryz.func60 rfl rfl rfl rfl ?_
  unfold F109 at hr
  refine LW.seq (LW.region (LOps.st rfl rfl rfl (LOp.assign rfl rfl) (LOps.nil (thn_n (LW.seq (LW.seq (LW.region (LOps.st rfl rfl rfl (LOp.move rfl rfl) (LOps.st rfl rfl rfl (LOp.lenM rfl rfl (by kernel_rfl)) (LOps.st rfl rfl rfl (LOp.bin rfl rfl rfl rfl) (LOps.nil ?_)))))))))))
  refine thn_n ?_
  refine LW.cond rfl (fun (g1 : (decide ((x.length : Int) < 1)) = true) => ?_) (fun (g1 : (decide ((x.length : Int) < 1)) = false) => ?_)
  ·
    have hr := ite_t g1 hr
    cases hr
  ·
    have hr := ite_f g1 hr
    refine LW.skip (thn_n (LW.seq (LW.region (LOps.st rfl rfl rfl (LOp.move rfl rfl) ?_))))
    obtain ⟨y1, h_y1, hr⟩ := bind_get hr
    refine LOps.st rfl rfl rfl (LOp.indexAddrX rfl rfl rfl st49 h_y1 rfl) (LOps.st rfl rfl rfl (LOp.loadC rfl rfl rfl vt3 rfl rfl) (LOps.st rfl rfl rfl (LOp.assign rfl rfl) (LOps.nil (thn_n (LW.seq (LW.seq (LW.region (LOps.st rfl rfl rfl (LOp.assign rfl rfl) (LOps.nil (thn_n ?_))))))))))
    obtain ⟨v1, hb_v1, ho_v1⟩ := bind_get hr
    clear hr
    refine LW.tail (E := [(2, .p (.int .i64 0)), (3, .p (.int .i64 v1.m))]) (O := []) ?_ (fun env_v1 H_v1 hw_v1 => ?_)
    · refine LW.block ?_
      refine LW.iterB (E := fun x1 : F109_L1 => [(0, .p (.slice 1 (x.map i64P))), (2, .p (.int .i64 0)), (3, .p (.int .i64 x1.m)), (4, .p (.int .i64 x1.i))]) (O := fun x1 => []) hb_v1 (Weak.of 0 ⟨rfl, rfl, rfl, rfl, trivial⟩ rfl rfl rfl rfl) (fun x1 z_x1 hr hb_x1 => ?_)
      unfold F109_s1 at hr
      refine LW.seq (LW.seq (LW.region (LOps.st rfl rfl rfl (LOp.move rfl rfl) (LOps.st rfl rfl rfl (LOp.move rfl rfl) (LOps.st rfl rfl rfl (LOp.lenM rfl rfl (by kernel_rfl)) (LOps.st rfl rfl rfl (LOp.bin rfl rfl rfl rfl) (LOps.nil (thn_n ?_))))))))
      refine LW.cond rfl (fun (g2 : (decide (x1.i < (x.length : Int))) = true) => ?_) (fun (g2 : (decide (x1.i < (x.length : Int))) = false) => ?_)
      ·
        have hr := ite_t g2 hr
        refine LW.skip (thn_n (LW.seq (LW.block (LW.region (LOps.st rfl rfl rfl (LOp.move rfl rfl) (LOps.st rfl rfl rfl (LOp.move rfl rfl) (LOps.st rfl rfl rfl (LOp.move rfl rfl) ?_)))))))
        obtain ⟨y2, h_y2, hr⟩ := bind_get hr
        refine LOps.st rfl rfl rfl (LOp.indexAddrX rfl rfl rfl st49 h_y2 rfl) (LOps.st rfl rfl rfl (LOp.loadC rfl rfl rfl vt3 rfl rfl) (LOps.st rfl rfl rfl (LOp.min rfl rfl rfl) (LOps.st rfl rfl rfl (LOp.assign rfl rfl) (LOps.nil (inBlk_n (thn_n (LW.region (LOps.st rfl rfl rfl (LOp.move rfl rfl) (LOps.st rfl rfl rfl (LOp.bin rfl rfl rfl rfl) (LOps.st rfl rfl rfl (LOp.assign rfl rfl) (LOps.nil ?_)))))))))))
        refine thn_n ?_
        obtain rfl := Option.some.inj hr
        exact ⟨_, rfl, Weak.of 0 ⟨rfl, rfl, rfl, rfl, trivial⟩ rfl rfl rfl rfl⟩
      ·
        have hr := ite_f g2 hr
        refine LW.exit (thn_e (thn_e (inBlk_self (thn_n ?_))))
        obtain rfl := Option.some.inj hr
        have hr := congrArg some (hb_x1 _ rfl)
        obtain rfl := Option.some.inj hr
        exact Weak.of 0 ⟨rfl, rfl, trivial⟩ rfl rfl rfl rfl
    · have hr := ho_v1
      clear hb_v1
      refine thn_n (LW.weak hw_v1 (LW.seq (LW.region (LOps.st rfl rfl rfl (LOp.move rfl rfl) (LOps.st rfl rfl rfl (LOp.assign rfl rfl) (LOps.nil (thn_n (LW.ret ?_))))))))
      obtain rfl := Option.some.inj hr
      refine finP_ret (.one (.tmp rfl)) ?_
      exact Conv.p
structure F110_L1 where
  m : Int
  i : Int
def F110_s1 (x : List Int) (x1 : F110_L1) : Option (F110_L1 ⊕ F110_L1) :=
  bif decide (x1.i < (x.length : Int)) then
    (ix x x1.i).bind fun y2 =>
    some (.inl (F110_L1.mk (if y2 > x1.m then y2 else x1.m) (IntKind.i64.wrap (x1.i + 1))))
  else
    some (.inr (F110_L1.mk x1.m x1.i))
def F110 (x : List Int) : Option Int :=
  bif decide ((x.length : Int) < 1) then
    none
  else
    (ix x 0).bind fun y1 =>
    (iter (F110_s1 x) big (F110_L1.mk y1 1)).bind fun v1 =>
    some v1.m
set_option maxRecDepth 100000 in
theorem c110 {x : List Int} {r_ : Int} (hr : F110 x = some r_) : LPure Tryz.prog 61 [.slice 1 (x.map i64P)] [.int .i64 r_] := by
  refine LPure.start Tryz.func61 rfl rfl rfl rfl ?_
  unfold F110 at hr
  refine LW.seq (LW.region (LOps.st rfl rfl rfl (LOp.assign rfl rfl) (LOps.nil (thn_n (LW.seq (LW.seq (LW.region (LOps.st rfl rfl rfl (LOp.move rfl rfl) (LOps.st rfl rfl rfl (LOp.lenM rfl rfl (by kernel_rfl)) (LOps.st rfl rfl rfl (LOp.bin rfl rfl rfl rfl) (LOps.nil ?_)))))))))))
  refine thn_n ?_
  refine LW.cond rfl (fun (g1 : (decide ((x.length : Int) < 1)) = true) => ?_) (fun (g1 : (decide ((x.length : Int) < 1)) = false) => ?_)
  ·
    have hr := ite_t g1 hr
    cases hr
  ·
    have hr := ite_f g1 hr
    refine LW.skip (thn_n (LW.seq (LW.region (LOps.st rfl rfl rfl (LOp.move rfl rfl) ?_))))
    obtain ⟨y1, h_y1, hr⟩ := bind_get hr
    refine LOps.st rfl rfl rfl (LOp.indexAddrX rfl rfl rfl st49 h_y1 rfl) (LOps.st rfl rfl rfl (LOp.loadC rfl rfl rfl vt3 rfl rfl) (LOps.st rfl rfl rfl (LOp.assign rfl rfl) (LOps.nil (thn_n (LW.seq (LW.seq (LW.region (LOps.st rfl rfl rfl (LOp.assign rfl rfl) (LOps.nil (thn_n ?_))))))))))
    obtain ⟨v1, hb_v1, ho_v1⟩ := bind_get hr
    clear hr
    refine LW.tail (E := [(2, .p (.int .i64 0)), (3, .p (.int .i64 v1.m))]) (O := []) ?_ (fun env_v1 H_v1 hw_v1 => ?_)
    · refine LW.block ?_
      refine LW.iterB (E := fun x1 : F110_L1 => [(0, .p (.slice 1 (x.map i64P))), (2, .p (.int .i64 0)), (3, .p (.int .i64 x1.m)), (4, .p (.int .i64 x1.i))]) (O := fun x1 => []) hb_v1 (Weak.of 0 ⟨rfl, rfl, rfl, rfl, trivial⟩ rfl rfl rfl rfl) (fun x1 z_x1 hr hb_x1 => ?_)
      unfold F110_s1 at hr
      refine LW.seq (LW.seq (LW.region (LOps.st rfl rfl rfl (LOp.move rfl rfl) (LOps.st rfl rfl rfl (LOp.move rfl rfl) (LOps.st rfl rfl rfl (LOp.lenM rfl rfl (by kernel_rfl)) (LOps.st rfl rfl rfl (LOp.bin rfl rfl rfl rfl) (LOps.nil (thn_n ?_))))))))
      refine LW.cond rfl (fun (g2 : (decide (x1.i < (x.length : Int))) = true) => ?_) (fun (g2 : (decide (x1.i < (x.length : Int))) = false) => ?_)
      ·
        have hr := ite_t g2 hr
        refine LW.skip (thn_n (LW.seq (LW.block (LW.region (LOps.st rfl rfl rfl (LOp.move rfl rfl) (LOps.st rfl rfl rfl (LOp.move rfl rfl) (LOps.st rfl rfl rfl (LOp.move rfl rfl) ?_)))))))
        obtain ⟨y2, h_y2, hr⟩ := bind_get hr
        refine LOps.st rfl rfl rfl (LOp.indexAddrX rfl rfl rfl st49 h_y2 rfl) (LOps.st rfl rfl rfl (LOp.loadC rfl rfl rfl vt3 rfl rfl) (LOps.st rfl rfl rfl (LOp.max rfl rfl rfl) (LOps.st rfl rfl rfl (LOp.assign rfl rfl) (LOps.nil (inBlk_n (thn_n (LW.region (LOps.st rfl rfl rfl (LOp.move rfl rfl) (LOps.st rfl rfl rfl (LOp.bin rfl rfl rfl rfl) (LOps.st rfl rfl rfl (LOp.assign rfl rfl) (LOps.nil ?_)))))))))))
        refine thn_n ?_
        obtain rfl := Option.some.inj hr
        exact ⟨_, rfl, Weak.of 0 ⟨rfl, rfl, rfl, rfl, trivial⟩ rfl rfl rfl rfl⟩
      ·
        have hr := ite_f g2 hr
        refine LW.exit (thn_e (thn_e (inBlk_self (thn_n ?_))))
        obtain rfl := Option.some.inj hr
        have hr := congrArg some (hb_x1 _ rfl)
        obtain rfl := Option.some.inj hr
        exact Weak.of 0 ⟨rfl, rfl, trivial⟩ rfl rfl rfl rfl
    · have hr := ho_v1
      clear hb_v1
      refine thn_n (LW.weak hw_v1 (LW.seq (LW.region (LOps.st rfl rfl rfl (LOp.move rfl rfl) (LOps.st rfl rfl rfl (LOp.assign rfl rfl) (LOps.nil (thn_n (LW.ret ?_))))))))
      obtain rfl := Option.some.inj hr
      refine finP_ret (.one (.tmp rfl)) ?_
      exact Conv.p
def F64 (c : Cf) : Option Bool :=
  (
    bif (c.W.length : Int) == 0 then
      some true
    else
      bif decide ((c.W.length : Int) > 12) then
        some true
      else
        (F109 c.W).bind fun v2 =>
        bif decide (v2 < 0) then
          some true
        else
          (F110 c.W).bind fun v3 =>
          some (decide (v3 > 1099511627776))
  ).bind fun v1 =>
  bif v1 then
    some false
  else
    bif decide (c.Epoch > 0) then
      bif decide (c.Epoch ≤ 8) then
        bif decide (c.Num ≥ 0) then
          bif decide (c.Num ≤ c.Den) then
            bif decide (c.Den > 0) then
              some (decide (c.Den ≤ 1000))
            else
              some false
          else
            some false
        else
          some false
      else
        some false
    else
      some false
set_option maxRecDepth 100000 in
theorem c64 {c : Cf} {r_ : Bool} (hr : F64 c = some r_) : LPure Tryz.prog 20 [cfP c] [.bool r_] := by
  refine LPure.start Tryz.func20 rfl rfl rfl rfl ?_
  unfold F64 at hr
  refine LW.seq (LW.region (LOps.st rfl rfl rfl (LOp.box rfl rfl rfl rfl rfl) (LOps.st rfl rfl rfl (LOp.assign rfl rfl) (LOps.nil (thn_n (LW.seq ?_))))))
  obtain ⟨v1, hb_v1, ho_v1⟩ := bind_get hr
  clear hr
  refine LW.cut (E := [(1, .ptr 0 0), (2, .p (.bool false)), (24, .p (.bool v1))]) (O := [.box [.p (.slice 1 (c.W.map i64P)), .p (.int .u64 c.Seed), .p (.int .i64 c.Epoch), .p (.int .i64 c.Num), .p (.int .i64 c.Den)]]) ?_ ?_
  · have hr := hb_v1
    refine LW.region (LOps.st rfl rfl rfl (LOp.fieldAddr rfl rfl ft55_0) (LOps.st rfl rfl rfl (LOp.load rfl rfl rfl vt49 rfl rfl) (LOps.st rfl rfl rfl (LOp.lenM rfl rfl (by kernel_rfl)) (LOps.st rfl rfl rfl (LOp.bin rfl rfl rfl rfl) (LOps.st rfl rfl rfl (LOp.move rfl rfl) ?_)))))
    refine LOps.cases 7 rfl (fun (g1 : ((c.W.length : Int) == 0) = true) => ?_) (fun (g1 : ((c.W.length : Int) == 0) = false) => ?_)
    ·
      have hr := ite_t g1 hr
      refine LOps.sk rfl rfl rfl (gd g1 rfl) rfl rfl (LOps.sk rfl rfl rfl (gd g1 rfl) rfl rfl (LOps.sk rfl rfl rfl (gd g1 rfl) rfl rfl (LOps.sk rfl rfl rfl (gd g1 rfl) rfl rfl (LOps.st rfl rfl rfl (LOp.pickT rfl (gdl g1 rfl) rfl) (LOps.st rfl rfl rfl (LOp.move rfl rfl) (LOps.sk rfl rfl rfl rfl rfl rfl (LOps.sk rfl rfl rfl rfl rfl rfl (LOps.sk rfl rfl rfl rfl rfl rfl (LOps.sk rfl rfl rfl rfl rfl rfl (LOps.st rfl rfl rfl (LOp.pickT rfl rfl rfl) (LOps.st rfl rfl rfl (LOp.move rfl rfl) ?_)))))))))))
      refine LOps.sk rfl rfl rfl rfl rfl rfl (LOps.sk rfl rfl rfl rfl rfl rfl (LOps.sk rfl rfl rfl rfl rfl rfl (LOps.sk rfl rfl rfl rfl rfl rfl (LOps.st rfl rfl rfl (LOp.pickT rfl rfl rfl) (LOps.nil (thn_n ?_))))))
      obtain rfl := Option.some.inj hr
      exact Weak.of 1 ⟨rfl, rfl, rfl, trivial⟩ rfl rfl rfl rfl
    ·
      have hr := ite_f g1 hr
      refine LOps.gd rfl rfl rfl (gd g1 rfl) rfl (LOp.fieldAddr rfl rfl ft55_0) (LOps.gd rfl rfl rfl (gd g1 rfl) rfl (LOp.load rfl rfl rfl vt49 rfl rfl) (LOps.gd rfl rfl rfl (gd g1 rfl) rfl (LOp.lenM rfl rfl (by kernel_rfl)) (LOps.gd rfl rfl rfl (gd g1 rfl) rfl (LOp.bin rfl rfl rfl rfl) (LOps.st rfl rfl rfl (LOp.pickF rfl (gdl g1 rfl) rfl) (LOps.st rfl rfl rfl (LOp.move rfl rfl) ?_)))))
      refine LOps.cases 13 rfl (fun (g2 : (decide ((c.W.length : Int) > 12)) = true) => ?_) (fun (g2 : (decide ((c.W.length : Int) > 12)) = false) => ?_)
      ·
        have hr := ite_t g2 hr
        refine LOps.sk rfl rfl rfl (gd g2 rfl) rfl rfl (LOps.sk rfl rfl rfl (gd g2 rfl) rfl rfl (LOps.sk rfl rfl rfl (gd g2 rfl) rfl rfl (LOps.sk rfl rfl rfl (gd g2 rfl) rfl rfl (LOps.st rfl rfl rfl (LOp.pickT rfl (gdl g2 rfl) rfl) (LOps.st rfl rfl rfl (LOp.move rfl rfl) (LOps.sk rfl rfl rfl rfl rfl rfl (LOps.sk rfl rfl rfl rfl rfl rfl (LOps.sk rfl rfl rfl rfl rfl rfl (LOps.sk rfl rfl rfl rfl rfl rfl (LOps.st rfl rfl rfl (LOp.pickT rfl rfl rfl) (LOps.nil ?_)))))))))))
        refine thn_n ?_
        obtain rfl := Option.some.inj hr
        exact Weak.of 1 ⟨rfl, rfl, rfl, trivial⟩ rfl rfl rfl rfl
      ·
        have hr := ite_f g2 hr
        refine LOps.gd rfl rfl rfl (gd g2 rfl) rfl (LOp.fieldAddr rfl rfl ft55_0) (LOps.gd rfl rfl rfl (gd g2 rfl) rfl (LOp.load rfl rfl rfl vt49 rfl rfl) ?_)
        obtain ⟨v2, h_v2, hr⟩ := bind_get hr
        refine LOps.gd rfl rfl rfl (gd g2 rfl) rfl (LOp.call rfl rfl rfl (by kernel_rfl) (LC.pure (c109 h_v2) (.cons Conv.p .nil))) (LOps.gd rfl rfl rfl (gd g2 rfl) rfl (LOp.bin rfl rfl rfl rfl) (LOps.st rfl rfl rfl (LOp.pickF rfl (gdl g2 rfl) rfl) (LOps.st rfl rfl rfl (LOp.move rfl rfl) ?_)))
        refine LOps.cases 19 rfl (fun (g3 : (decide (v2 < 0)) = true) => ?_) (fun (g3 : (decide (v2 < 0)) = false) => ?_)
        ·
          have hr := ite_t g3 hr
          refine LOps.sk rfl rfl rfl (gd g3 rfl) rfl rfl (LOps.sk rfl rfl rfl (gd g3 rfl) rfl rfl (LOps.sk rfl rfl rfl (gd g3 rfl) rfl rfl (LOps.sk rfl rfl rfl (gd g3 rfl) rfl rfl (LOps.st rfl rfl rfl (LOp.pickT rfl (gdl g3 rfl) rfl) (LOps.nil (thn_n ?_))))))
          obtain rfl := Option.some.inj hr
          exact Weak.of 1 ⟨rfl, rfl, rfl, trivial⟩ rfl rfl rfl rfl
        ·
          have hr := ite_f g3 hr
          refine LOps.gd rfl rfl rfl (gd g3 rfl) rfl (LOp.fieldAddr rfl rfl ft55_0) (LOps.gd rfl rfl rfl (gd g3 rfl) rfl (LOp.load rfl rfl rfl vt49 rfl rfl) ?_)
          obtain ⟨v3, h_v3, hr⟩ := bind_get hr
          refine LOps.gd rfl rfl rfl (gd g3 rfl) rfl (LOp.call rfl rfl rfl (by kernel_rfl) (LC.pure (c110 h_v3) (.cons Conv.p .nil))) (LOps.gd rfl rfl rfl (gd g3 rfl) rfl (LOp.bin rfl rfl rfl rfl) (LOps.st rfl rfl rfl (LOp.pickF rfl (gdl g3 rfl) rfl) (LOps.nil (thn_n ?_))))
          obtain rfl := Option.some.inj hr
          exact Weak.of 1 ⟨rfl, rfl, rfl, trivial⟩ rfl rfl rfl rfl
  · have hr := ho_v1
    clear hb_v1
    refine LW.cond rfl (fun (g4 : v1 = true) => ?_) (fun (g4 : v1 = false) => ?_)
    ·
      have hr := ite_t g4 hr
      refine LW.seq (LW.region (LOps.st rfl rfl rfl (LOp.assign rfl rfl) (LOps.nil (thn_n (LW.ret (thn_r ?_))))))
      obtain rfl := Option.some.inj hr
      refine finP_ret (.one (.tmp rfl)) ?_
      exact Conv.p
    ·
      have hr := ite_f g4 hr
      refine LW.skip (thn_n (LW.seq (LW.region (LOps.st rfl rfl rfl (LOp.fieldAddr rfl rfl ft55_2) (LOps.st rfl rfl rfl (LOp.load rfl rfl rfl vt3 rfl rfl) (LOps.st rfl rfl rfl (LOp.bin rfl rfl rfl rfl) (LOps.st rfl rfl rfl (LOp.move rfl rfl) ?_)))))))
      refine LOps.cases 28 rfl (fun (g5 : (decide (c.Epoch > 0)) = true) => ?_) (fun (g5 : (decide (c.Epoch > 0)) = false) => ?_)
      ·
        have hr := ite_t g5 hr
        refine LOps.gd rfl rfl rfl (gd g5 rfl) rfl (LOp.fieldAddr rfl rfl ft55_2) (LOps.gd rfl rfl rfl (gd g5 rfl) rfl (LOp.load rfl rfl rfl vt3 rfl rfl) (LOps.gd rfl rfl rfl (gd g5 rfl) rfl (LOp.bin rfl rfl rfl rfl) (LOps.st rfl rfl rfl (LOp.pickT rfl (gdl g5 rfl) rfl) (LOps.st rfl rfl rfl (LOp.move rfl rfl) ?_))))
        refine LOps.cases 33 rfl (fun (g6 : (decide (c.Epoch ≤ 8)) = true) => ?_) (fun (g6 : (decide (c.Epoch ≤ 8)) = false) => ?_)
        ·
          have hr := ite_t g6 hr
          refine LOps.gd rfl rfl rfl (gd g6 rfl) rfl (LOp.fieldAddr rfl rfl ft55_3) (LOps.gd rfl rfl rfl (gd g6 rfl) rfl (LOp.load rfl rfl rfl vt3 rfl rfl) (LOps.gd rfl rfl rfl (gd g6 rfl) rfl (LOp.bin rfl rfl rfl rfl) (LOps.st rfl rfl rfl (LOp.pickT rfl (gdl g6 rfl) rfl) (LOps.st rfl rfl rfl (LOp.move rfl rfl) ?_))))
          refine LOps.cases 38 rfl (fun (g7 : (decide (c.Num ≥ 0)) = true) => ?_) (fun (g7 : (decide (c.Num ≥ 0)) = false) => ?_)
          ·
            have hr := ite_t g7 hr
            refine LOps.gd rfl rfl rfl (gd g7 rfl) rfl (LOp.fieldAddr rfl rfl ft55_3) (LOps.gd rfl rfl rfl (gd g7 rfl) rfl (LOp.load rfl rfl rfl vt3 rfl rfl) (LOps.gd rfl rfl rfl (gd g7 rfl) rfl (LOp.fieldAddr rfl rfl ft55_4) (LOps.gd rfl rfl rfl (gd g7 rfl) rfl (LOp.load rfl rfl rfl vt3 rfl rfl) (LOps.gd rfl rfl rfl (gd g7 rfl) rfl (LOp.bin rfl rfl rfl rfl) (LOps.st rfl rfl rfl (LOp.pickT rfl (gdl g7 rfl) rfl) (LOps.st rfl rfl rfl (LOp.move rfl rfl) ?_))))))
            refine LOps.cases 45 rfl (fun (g8 : (decide (c.Num ≤ c.Den)) = true) => ?_) (fun (g8 : (decide (c.Num ≤ c.Den)) = false) => ?_)
            ·
              have hr := ite_t g8 hr
              refine LOps.gd rfl rfl rfl (gd g8 rfl) rfl (LOp.fieldAddr rfl rfl ft55_4) (LOps.gd rfl rfl rfl (gd g8 rfl) rfl (LOp.load rfl rfl rfl vt3 rfl rfl) (LOps.gd rfl rfl rfl (gd g8 rfl) rfl (LOp.bin rfl rfl rfl rfl) (LOps.st rfl rfl rfl (LOp.pickT rfl (gdl g8 rfl) rfl) (LOps.st rfl rfl rfl (LOp.move rfl rfl) ?_))))
              refine LOps.cases 50 rfl (fun (g9 : (decide (c.Den > 0)) = true) => ?_) (fun (g9 : (decide (c.Den > 0)) = false) => ?_)
              ·
                have hr := ite_t g9 hr
                refine LOps.gd rfl rfl rfl (gd g9 rfl) rfl (LOp.fieldAddr rfl rfl ft55_4) (LOps.gd rfl rfl rfl (gd g9 rfl) rfl (LOp.load rfl rfl rfl vt3 rfl rfl) (LOps.gd rfl rfl rfl (gd g9 rfl) rfl (LOp.bin rfl rfl rfl rfl) (LOps.st rfl rfl rfl (LOp.pickT rfl (gdl g9 rfl) rfl) (LOps.st rfl rfl rfl (LOp.assign rfl rfl) (LOps.nil (thn_n (LW.ret ?_)))))))
                obtain rfl := Option.some.inj hr
                refine finP_ret (.one (.tmp rfl)) ?_
                exact Conv.p
              ·
                have hr := ite_f g9 hr
                refine LOps.sk rfl rfl rfl (gd g9 rfl) rfl rfl (LOps.sk rfl rfl rfl (gd g9 rfl) rfl rfl (LOps.sk rfl rfl rfl (gd g9 rfl) rfl rfl (LOps.st rfl rfl rfl (LOp.pickF rfl (gdl g9 rfl) rfl) (LOps.st rfl rfl rfl (LOp.assign rfl rfl) (LOps.nil (thn_n (LW.ret ?_)))))))
                obtain rfl := Option.some.inj hr
                refine finP_ret (.one (.tmp rfl)) ?_
                exact Conv.p
            ·
              have hr := ite_f g8 hr
              refine LOps.sk rfl rfl rfl (gd g8 rfl) rfl rfl (LOps.sk rfl rfl rfl (gd g8 rfl) rfl rfl (LOps.sk rfl rfl rfl (gd g8 rfl) rfl rfl (LOps.st rfl rfl rfl (LOp.pickF rfl (gdl g8 rfl) rfl) (LOps.st rfl rfl rfl (LOp.move rfl rfl) (LOps.sk rfl rfl rfl rfl rfl rfl (LOps.sk rfl rfl rfl rfl rfl rfl (LOps.sk rfl rfl rfl rfl rfl rfl (LOps.st rfl rfl rfl (LOp.pickF rfl rfl rfl) (LOps.st rfl rfl rfl (LOp.assign rfl rfl) (LOps.nil (thn_n ?_)))))))))))
              refine LW.ret ?_
              obtain rfl := Option.some.inj hr
              refine finP_ret (.one (.tmp rfl)) ?_
              exact Conv.p
          ·
            have hr := ite_f g7 hr
            refine LOps.sk rfl rfl rfl (gd g7 rfl) rfl rfl (LOps.sk rfl rfl rfl (gd g7 rfl) rfl rfl (LOps.sk rfl rfl rfl (gd g7 rfl) rfl rfl (LOps.sk rfl rfl rfl (gd g7 rfl) rfl rfl (LOps.sk rfl rfl rfl (gd g7 rfl) rfl rfl (LOps.st rfl rfl rfl (LOp.pickF rfl (gdl g7 rfl) rfl) (LOps.st rfl rfl rfl (LOp.move rfl rfl) (LOps.sk rfl rfl rfl rfl rfl rfl (LOps.sk rfl rfl rfl rfl rfl rfl (LOps.sk rfl rfl rfl rfl rfl rfl (LOps.st rfl rfl rfl (LOp.pickF rfl rfl rfl) (LOps.st rfl rfl rfl (LOp.move rfl rfl) ?_)))))))))))
            refine LOps.sk rfl rfl rfl rfl rfl rfl (LOps.sk rfl rfl rfl rfl rfl rfl (LOps.sk rfl rfl rfl rfl rfl rfl (LOps.st rfl rfl rfl (LOp.pickF rfl rfl rfl) (LOps.st rfl rfl rfl (LOp.assign rfl rfl) (LOps.nil (thn_n (LW.ret ?_)))))))
            obtain rfl := Option.some.inj hr
            refine finP_ret (.one (.tmp rfl)) ?_
            exact Conv.p
        ·
          have hr := ite_f g6 hr
          refine LOps.sk rfl rfl rfl (gd g6 rfl) rfl rfl (LOps.sk rfl rfl rfl (gd g6 rfl) rfl rfl (LOps.sk rfl rfl rfl (gd g6 rfl) rfl rfl (LOps.st rfl rfl rfl (LOp.pickF rfl (gdl g6 rfl) rfl) (LOps.st rfl rfl rfl (LOp.move rfl rfl) (LOps.sk rfl rfl rfl rfl rfl rfl (LOps.sk rfl rfl rfl rfl rfl rfl (LOps.sk rfl rfl rfl rfl rfl rfl (LOps.sk rfl rfl rfl rfl rfl rfl (LOps.sk rfl rfl rfl rfl rfl rfl (LOps.st rfl rfl rfl (LOp.pickF rfl rfl rfl) (LOps.st rfl rfl rfl (LOp.move rfl rfl) ?_)))))))))))
          refine LOps.sk rfl rfl rfl rfl rfl rfl (LOps.sk rfl rfl rfl rfl rfl rfl (LOps.sk rfl rfl rfl rfl rfl rfl (LOps.st rfl rfl rfl (LOp.pickF rfl rfl rfl) (LOps.st rfl rfl rfl (LOp.move rfl rfl) (LOps.sk rfl rfl rfl rfl rfl rfl (LOps.sk rfl rfl rfl rfl rfl rfl (LOps.sk rfl rfl rfl rfl rfl rfl (LOps.st rfl rfl rfl (LOp.pickF rfl rfl rfl) (LOps.st rfl rfl rfl (LOp.assign rfl rfl) (LOps.nil (thn_n ?_)))))))))))
          refine LW.ret ?_
          obtain rfl := Option.some.inj hr
          refine finP_ret (.one (.tmp rfl)) ?_
          exact Conv.p
      ·
        have hr := ite_f g5 hr
        refine LOps.sk rfl rfl rfl (gd g5 rfl) rfl rfl (LOps.sk rfl rfl rfl (gd g5 rfl) rfl rfl (LOps.sk rfl rfl rfl (gd g5 rfl) rfl rfl (LOps.st rfl rfl rfl (LOp.pickF rfl (gdl g5 rfl) rfl) (LOps.st rfl rfl rfl (LOp.move rfl rfl) (LOps.sk rfl rfl rfl rfl rfl rfl (LOps.sk rfl rfl rfl rfl rfl rfl (LOps.sk rfl rfl rfl rfl rfl rfl (LOps.st rfl rfl rfl (LOp.pickF rfl rfl rfl) (LOps.st rfl rfl rfl (LOp.move rfl rfl) (LOps.sk rfl rfl rfl rfl rfl rfl (LOps.sk rfl rfl rfl rfl rfl rfl ?_)))))))))))
        refine LOps.sk rfl rfl rfl rfl rfl rfl (LOps.sk rfl rfl rfl rfl rfl rfl (LOps.sk rfl rfl rfl rfl rfl rfl (LOps.st rfl rfl rfl (LOp.pickF rfl rfl rfl) (LOps.st rfl rfl rfl (LOp.move rfl rfl) (LOps.sk rfl rfl rfl rfl rfl rfl (LOps.sk rfl rfl rfl rfl rfl rfl (LOps.sk rfl rfl rfl rfl rfl rfl (LOps.st rfl rfl rfl (LOp.pickF rfl rfl rfl) (LOps.st rfl rfl rfl (LOp.move rfl rfl) (LOps.sk rfl rfl rfl rfl rfl rfl (LOps.sk rfl rfl rfl rfl rfl rfl ?_)))))))))))
        refine LOps.sk rfl rfl rfl rfl rfl rfl (LOps.st rfl rfl rfl (LOp.pickF rfl rfl rfl) (LOps.st rfl rfl rfl (LOp.assign rfl rfl) (LOps.nil (thn_n (LW.ret ?_)))))
        obtain rfl := Option.some.inj hr
        refine finP_ret (.one (.tmp rfl)) ?_
        exact Conv.p
def F107 (c : Cf) (slot : Int) : Option Bool :=
  (F64 c).bind fun v1 =>
  bif v1 then
    bif decide (slot > 0) then
      some (decide (slot ≤ 1048576))
    else
      some false
  else
    some false
set_option maxRecDepth 100000 in
theorem c107 {c : Cf} {slot : Int} {r_ : Bool} (hr : F107 c slot = some r_) : LPure Tryz.prog 62 [cfP c, .int .i64 slot] [.bool r_] := by
  refine LPure.start Tryz.func62 rfl rfl rfl rfl ?_
  unfold F107 at hr
  refine LW.seq (LW.region (LOps.st rfl rfl rfl (LOp.box rfl rfl rfl rfl rfl) (LOps.st rfl rfl rfl (LOp.assign rfl rfl) (LOps.nil (thn_n (LW.seq (LW.region (LOps.st rfl rfl rfl (LOp.load rfl rfl rfl vt55 rfl rfl) ?_))))))))
  obtain ⟨v1, h_v1, hr⟩ := bind_get hr
  refine LOps.st rfl rfl rfl (LOp.call rfl rfl rfl (by kernel_rfl) (LC.pure (c64 h_v1) (.cons Conv.p .nil))) (LOps.st rfl rfl rfl (LOp.move rfl rfl) ?_)
  refine LOps.cases 7 rfl (fun (g1 : v1 = true) => ?_) (fun (g1 : v1 = false) => ?_)
  ·
    have hr := ite_t g1 hr
    refine LOps.gd rfl rfl rfl (gd g1 rfl) rfl (LOp.move rfl rfl) (LOps.gd rfl rfl rfl (gd g1 rfl) rfl (LOp.bin rfl rfl rfl rfl) (LOps.st rfl rfl rfl (LOp.pickT rfl (gdl g1 rfl) rfl) (LOps.st rfl rfl rfl (LOp.move rfl rfl) ?_)))
    refine LOps.cases 11 rfl (fun (g2 : (decide (slot > 0)) = true) => ?_) (fun (g2 : (decide (slot > 0)) = false) => ?_)
    ·
      have hr := ite_t g2 hr
      refine LOps.gd rfl rfl rfl (gd g2 rfl) rfl (LOp.move rfl rfl) (LOps.gd rfl rfl rfl (gd g2 rfl) rfl (LOp.bin rfl rfl rfl rfl) (LOps.st rfl rfl rfl (LOp.pickT rfl (gdl g2 rfl) rfl) (LOps.st rfl rfl rfl (LOp.assign rfl rfl) (LOps.nil (thn_n (LW.ret ?_))))))
      obtain rfl := Option.some.inj hr
      refine finP_ret (.one (.tmp rfl)) ?_
      exact Conv.p
    ·
      have hr := ite_f g2 hr
      refine LOps.sk rfl rfl rfl (gd g2 rfl) rfl rfl (LOps.sk rfl rfl rfl (gd g2 rfl) rfl rfl (LOps.st rfl rfl rfl (LOp.pickF rfl (gdl g2 rfl) rfl) (LOps.st rfl rfl rfl (LOp.assign rfl rfl) (LOps.nil (thn_n (LW.ret ?_))))))
      obtain rfl := Option.some.inj hr
      refine finP_ret (.one (.tmp rfl)) ?_
      exact Conv.p
  ·
    have hr := ite_f g1 hr
    refine LOps.sk rfl rfl rfl (gd g1 rfl) rfl rfl (LOps.sk rfl rfl rfl (gd g1 rfl) rfl rfl (LOps.st rfl rfl rfl (LOp.pickF rfl (gdl g1 rfl) rfl) (LOps.st rfl rfl rfl (LOp.move rfl rfl) (LOps.sk rfl rfl rfl rfl rfl rfl (LOps.sk rfl rfl rfl rfl rfl rfl (LOps.st rfl rfl rfl (LOp.pickF rfl rfl rfl) (LOps.st rfl rfl rfl (LOp.assign rfl rfl) (LOps.nil (thn_n (LW.ret ?_))))))))))
    obtain rfl := Option.some.inj hr
    refine finP_ret (.one (.tmp rfl)) ?_
    exact Conv.p
structure F150_L1 where
  t8 : Int
def F150_s1 (s : List Int) (v : Int) (x1 : F150_L1) : Option (F150_L1 ⊕ (F150_L1 ⊕ Int)) :=
  bif decide (x1.t8 < (s.length : Int)) then
    (ix s x1.t8).bind fun y1 =>
    bif v == y1 then
      some (.inr (.inr x1.t8))
    else
      some (.inl (F150_L1.mk (IntKind.i64.wrap (x1.t8 + 1))))
  else
    some (.inr (.inl (F150_L1.mk x1.t8)))
def F150 (s : List Int) (v : Int) : Option Int :=
  (iter (F150_s1 s v) big (F150_L1.mk 0)).bind fun b_v1 => Sum.elim (fun _ =>
    some (-1)) some b_v1
set_option maxRecDepth 100000 in
theorem c150 {s : List Int} {v : Int} {r_ : Int} (hr : F150 s v = some r_) : LPure Tryz.prog 103 [.slice 1 (s.map i64P), .int .i64 v] [.int .i64 r_] := by
  refine LPure.start Tryz.func103 rfl rfl rfl rfl ?_
  unfold F150 at hr
  refine LW.seq (LW.region (LOps.st rfl rfl rfl (LOp.assign rfl rfl) (LOps.nil (thn_n (LW.seq (LW.seq (LW.region (LOps.st rfl rfl rfl (LOp.move rfl rfl) (LOps.st rfl rfl rfl (LOp.lenM rfl rfl (by kernel_rfl)) (LOps.st rfl rfl rfl (LOp.move rfl rfl) (LOps.nil ?_)))))))))))
  refine thn_n ?_
  obtain ⟨b_v1, hb_v1, ho_v1⟩ := bind_get hr
  clear hr
  refine LW.tailB (b := b_v1) (E := fun v1 => [(4, .p (.int .i64 0))]) (O := fun v1 => []) ?_ (fun v1 e_v1 env_v1 H_v1 hw_v1 => ?_)
  · refine LW.block ?_
    refine LW.iterB (E := fun x1 : F150_L1 => [(0, .p (.slice 1 (s.map i64P))), (1, .p (.int .i64 v)), (4, .p (.int .i64 0)), (7, .p (.int .i64 (s.length : Int))), (8, .p (.int .i64 x1.t8))]) (O := fun x1 => []) hb_v1 (Weak.of 0 ⟨rfl, rfl, rfl, rfl, rfl, trivial⟩ rfl rfl rfl rfl) (fun x1 z_x1 hr hb_x1 => ?_)
    unfold F150_s1 at hr
    refine LW.seq (LW.region (LOps.st rfl rfl rfl (LOp.bin rfl rfl rfl rfl) (LOps.nil (thn_n (LW.seq ?_)))))
    refine LW.cond rfl (fun (g1 : (decide (x1.t8 < (s.length : Int))) = true) => ?_) (fun (g1 : (decide (x1.t8 < (s.length : Int))) = false) => ?_)
    ·
      have hr := ite_t g1 hr
      refine LW.skip (thn_n (LW.seq (LW.block (LW.seq (LW.region (LOps.st rfl rfl rfl (LOp.move rfl rfl) (LOps.st rfl rfl rfl (LOp.assign rfl rfl) (LOps.nil (thn_n (LW.seq (LW.region ?_)))))))))))
      refine LOps.st rfl rfl rfl (LOp.move rfl rfl) (LOps.st rfl rfl rfl (LOp.move rfl rfl) (LOps.st rfl rfl rfl (LOp.move rfl rfl) ?_))
      obtain ⟨y1, h_y1, hr⟩ := bind_get hr
      refine LOps.st rfl rfl rfl (LOp.indexAddrX rfl rfl rfl st49 h_y1 rfl) (LOps.st rfl rfl rfl (LOp.loadC rfl rfl rfl vt3 rfl rfl) (LOps.st rfl rfl rfl (LOp.bin rfl rfl rfl rfl) (LOps.nil (thn_n ?_))))
      refine LW.cond rfl (fun (g2 : (v == y1) = true) => ?_) (fun (g2 : (v == y1) = false) => ?_)
      ·
        have hr := ite_t g2 hr
        refine LW.seq (LW.region (LOps.st rfl rfl rfl (LOp.move rfl rfl) (LOps.st rfl rfl rfl (LOp.assign rfl rfl) (LOps.nil (thn_n (LW.ret (inBlk_r (thn_r (thn_r (inBlk_r (thn_r ?_)))))))))))
        refine thn_r ?_
        obtain rfl := Option.some.inj hr
        have hr := congrArg some (hb_x1 _ rfl)
        obtain rfl := Option.some.inj hr
        have hr := sum_r ho_v1
        obtain rfl := Option.some.inj hr
        refine finP_ret (.one (.tmp rfl)) ?_
        exact Conv.p
      ·
        have hr := ite_f g2 hr
        refine LW.skip (inBlk_n (thn_n (LW.region (LOps.st rfl rfl rfl (LOp.bin rfl rfl rfl rfl) (LOps.st rfl rfl rfl (LOp.move rfl rfl) (LOps.nil (thn_n ?_)))))))
        obtain rfl := Option.some.inj hr
        exact ⟨_, rfl, Weak.of 0 ⟨rfl, rfl, rfl, rfl, rfl, trivial⟩ rfl rfl rfl rfl⟩
    ·
      have hr := ite_f g1 hr
      refine LW.exit (thn_e (thn_e (inBlk_self (thn_n ?_))))
      obtain rfl := Option.some.inj hr
      have hr := congrArg some (hb_x1 _ rfl)
      obtain rfl := Option.some.inj hr
      exact ⟨_, rfl, Weak.of 0 ⟨rfl, trivial⟩ rfl rfl rfl rfl⟩
  · obtain rfl := e_v1
    have hr := sum_l ho_v1
    clear hb_v1
    refine thn_n (LW.weak hw_v1 (LW.seq (LW.region (LOps.st rfl rfl rfl (LOp.assign rfl rfl) (LOps.nil (thn_n (LW.ret ?_)))))))
    obtain rfl := Option.some.inj hr
    refine finP_ret (.one (.tmp rfl)) ?_
    exact Conv.p
def F119 (s : List Int) (v : Int) : Option Bool :=
  (F150 s v).bind fun v1 =>
  some (decide (v1 ≥ 0))
set_option maxRecDepth 100000 in
theorem c119 {s : List Int} {v : Int} {r_ : Bool} (hr : F119 s v = some r_) : LPure Tryz.prog 65 [.slice 1 (s.map i64P), .int .i64 v] [.bool r_] := by
  refine LPure.start Tryz.func65 rfl rfl rfl rfl ?_
  unfold F119 at hr
  refine LW.seq (LW.region (LOps.st rfl rfl rfl (LOp.assign rfl rfl) (LOps.nil (thn_n (LW.seq (LW.region (LOps.st rfl rfl rfl (LOp.move rfl rfl) (LOps.st rfl rfl rfl (LOp.move rfl rfl) ?_))))))))
  obtain ⟨v1, h_v1, hr⟩ := bind_get hr
  refine LOps.st rfl rfl rfl (LOp.call rfl rfl rfl (by kernel_rfl) (LC.pure (c150 h_v1) (.cons Conv.p (.cons Conv.p .nil)))) (LOps.st rfl rfl rfl (LOp.bin rfl rfl rfl rfl) (LOps.st rfl rfl rfl (LOp.assign rfl rfl) (LOps.nil (thn_n (LW.ret ?_)))))
  obtain rfl := Option.some.inj hr
  refine finP_ret (.one (.tmp rfl)) ?_
  exact Conv.p
structure F67_L1 where
  i : Int
structure F76_L1 where
  i : Int
structure F71_L1 where
  n : Int
  i : Int
open Go.Proofs
theorem lenC_len : ∀ H : List LObj, lenC H = some H.length
  | [] => rfl
  | _ :: r => by unfold lenC; rw [lenC_len r]; rfl
theorem appC_app : ∀ (H : List LObj) (o : LObj), appC H o = some (H ++ [o])
  | [], _ => rfl
  | _ :: r, o => by unfold appC; rw [appC_app r o]; rfl
set_option maxRecDepth 100000 in
theorem c112 {c : Cf} {g : FuncId} {first caps : List LV} {H : List LObj} : LC Tryz.prog 106 [.p (cfP c), .fn g first caps] H (Is (.fn 133 [] [.cptr [.slice 1 (c.W.map i64P), .int .u64 c.Seed, .int .i64 c.Epoch, .int .i64 c.Num, .int .i64 c.Den], .fptr (.fn g first caps)]) H) := by
  refine LC.those Tryz.func106 rfl rfl rfl ?_
  refine LW.seq (LW.region (LOps.st rfl rfl rfl (LOp.box rfl rfl rfl (lenC_len _) (appC_app _ _)) (LOps.st rfl rfl rfl (LOp.box rfl rfl rfl (lenC_len _) (appC_app _ _)) (LOps.st rfl rfl rfl (LOp.assign rfl rfl) (LOps.nil (thn_n (LW.seq (LW.region (LOps.st rfl rfl rfl (LOp.makeFunc rfl rfl rfl) (LOps.st rfl rfl rfl (LOp.assign rfl rfl) (LOps.nil ?_)))))))))))
  refine thn_n (LW.ret ?_)
  refine ⟨.inr rfl, by simp, ?_⟩
  have h : ∀ n : Nat, n = H.length + 1 → ∀ {e : Env} {H2 : List LObj}, e.get 4 = some (.fn 133 [] [.ptr H.length 0, .ptr n 0]) → ResAll Tryz.prog e H2 Tryz.f106.results (.fn 133 [] [.ptr H.length 0, .ptr (H.length + 1) 0]) := by
    rintro n rfl e H2 he
    exact .one (.tmp he)
  exact h _ (by simp) rfl
open Go.Proofs
noncomputable def A116 : Code := rfA Tryz.f185.body
noncomputable def B116 : Code := rfB Tryz.f185.body
noncomputable def A147 : Code := rfA Tryz.f132.body
noncomputable def B147 : Code := rfB Tryz.f132.body
def F117 (i : Int) (_ : Cf) (m : List (Int × Bool)) : Option Bool :=
  some ((findE m i).getD false)
set_option maxRecDepth 100000 in
theorem cF117 {i : Int} {c : Cf} {m : List (Int × Bool)} {r_ : Bool} (hr : F117 i c m = some r_) : LC Tryz.prog 186 [.p (.int .i64 i), .ptr 2 0] [.box [.p (.slice 1 (c.W.map i64P)), .p (.int .u64 c.Seed), .p (.int .i64 c.Epoch), .p (.int .i64 c.Num), .p (.int .i64 c.Den)], .map (entsOf i64P (fun v => .p (.bool v)) m), .box [.map 1]] (Is (.p (.bool r_)) [.box [.p (.slice 1 (c.W.map i64P)), .p (.int .u64 c.Seed), .p (.int .i64 c.Epoch), .p (.int .i64 c.Num), .p (.int .i64 c.Den)], .map (entsOf i64P (fun v => .p (.bool v)) m), .box [.map 1]]) := by
  refine LC.start Tryz.func186 rfl rfl rfl ?_
  unfold F117 at hr
  refine LW.seq (LW.region (LOps.st rfl rfl rfl (LOp.assign rfl rfl) (LOps.nil (thn_n (LW.seq (LW.region (LOps.st rfl rfl rfl (LOp.load rfl rfl rfl vt132 rfl rfl) (LOps.st rfl rfl rfl (LOp.move rfl rfl) ?_))))))))
  refine LOps.st rfl rfl rfl (LOp.getX (f := i64P) (g := (fun v => .p (.bool v))) i false i64Key rfl rfl rfl rfl mt132 zl4 rfl rfl) ?_
  refine LOps.st rfl rfl rfl (LOp.assign rfl rfl) (LOps.nil (thn_n (LW.ret ?_)))
  obtain rfl := Option.some.inj hr
  refine fin_ret (.one (.tmp rfl)) ?_
  exact ⟨rfl, rfl⟩
set_option maxRecDepth 100000 in
theorem y116W {c : Cf} {m : List (Int × Bool)} {n i y : Int} {o : Oper} {env : Env} {fo xo : Operand} {ats : Array TypeId} (ho : o.op = .call { callee := .value fo, args := #[xo], argTypes := ats }) (hf : lev env fo = some (.yld 6)) (hx : lev env xo = some (.p (.int .i64 i))) (h : ix c.W i = some y) :
    LOpI Tryz.prog o env [.box [.p (.slice 1 (c.W.map i64P)), .p (.int .u64 c.Seed), .p (.int .i64 c.Epoch), .p (.int .i64 c.Num), .p (.int .i64 c.Den)], .map (entsOf i64P (fun v => .p (.bool v)) m), .box [.map 1], .box [.p (.slice 1 (c.W.map i64P)), .p (.int .u64 c.Seed), .p (.int .i64 c.Epoch), .p (.int .i64 c.Num), .p (.int .i64 c.Den)], .box [.p (.int .i64 n)], .defd, .loop false 21 [(2, .ptr 3 0), (4, .p (.int .i64 0)), (5, .ptr 4 0), (11, .fn 133 [] [.cptr [.slice 1 (c.W.map i64P), .int .u64 c.Seed, .int .i64 c.Epoch, .int .i64 c.Num, .int .i64 c.Den], .fptr (.fn 186 [] [.ptr 2 0])])] #[12] A116 B116] (Is (.p (.bool true)) [.box [.p (.slice 1 (c.W.map i64P)), .p (.int .u64 c.Seed), .p (.int .i64 c.Epoch), .p (.int .i64 c.Num), .p (.int .i64 c.Den)], .map (entsOf i64P (fun v => .p (.bool v)) m), .box [.map 1], .box [.p (.slice 1 (c.W.map i64P)), .p (.int .u64 c.Seed), .p (.int .i64 c.Epoch), .p (.int .i64 c.Num), .p (.int .i64 c.Den)], .box [.p (.int .i64 (IntKind.i64.wrap (n + y)))], .defd, .loop false 21 [(2, .ptr 3 0), (4, .p (.int .i64 0)), (5, .ptr 4 0), (11, .fn 133 [] [.cptr [.slice 1 (c.W.map i64P), .int .u64 c.Seed, .int .i64 c.Epoch, .int .i64 c.Num, .int .i64 c.Den], .fptr (.fn 186 [] [.ptr 2 0])])] #[12] A116 B116]) := by
  refine LOpI.yield (env2 := (6, .p (.int .i64 i)) :: (12, .p (.int .i64 i)) :: [(2, .ptr 3 0), (4, .p (.int .i64 0)), (5, .ptr 4 0), (11, .fn 133 [] [.cptr [.slice 1 (c.W.map i64P), .int .u64 c.Seed, .int .i64 c.Epoch, .int .i64 c.Num, .int .i64 c.Den], .fptr (.fn 186 [] [.ptr 2 0])])]) (H2 := [.box [.p (.slice 1 (c.W.map i64P)), .p (.int .u64 c.Seed), .p (.int .i64 c.Epoch), .p (.int .i64 c.Num), .p (.int .i64 c.Den)], .map (entsOf i64P (fun v => .p (.bool v)) m), .box [.map 1], .box [.p (.slice 1 (c.W.map i64P)), .p (.int .u64 c.Seed), .p (.int .i64 c.Epoch), .p (.int .i64 c.Num), .p (.int .i64 c.Den)], .box [.p (.int .i64 (IntKind.i64.wrap (n + y)))], .defd, .loop true 21 [(2, .ptr 3 0), (4, .p (.int .i64 0)), (5, .ptr 4 0), (11, .fn 133 [] [.cptr [.slice 1 (c.W.map i64P), .int .u64 c.Seed, .int .i64 c.Epoch, .int .i64 c.Num, .int .i64 c.Den], .fptr (.fn 186 [] [.ptr 2 0])])] #[12] A116 B116]) ho hf hx rfl rfl (by kernel_rfl) (by kernel_rfl) rfl (LRg.plain ?_) ?_ rfl rfl
  · refine LOps.st rfl rfl rfl (LOp.assign rfl rfl) ?_
    exact LOps.nil ⟨rfl, rfl, rfl⟩
  · refine LRg.drawLast (m := 7) (by kernel_rfl) (by kernel_rfl) (by kernel_rfl) ?_
    refine LO.st rfl rfl rfl (LOp.load rfl rfl rfl vt3 rfl rfl) (LO.st rfl rfl rfl (LOp.fieldAddr rfl rfl ft55_0) (LO.st rfl rfl rfl (LOp.load rfl rfl rfl vt49 rfl rfl) (LO.st rfl rfl rfl (LOp.move rfl rfl) (LO.st rfl rfl rfl (LOp.indexAddrX rfl rfl rfl st49 h rfl) (LO.st rfl rfl rfl (LOp.loadC rfl rfl rfl vt3 rfl rfl) (LO.st rfl rfl rfl (LOp.bin rfl rfl rfl rfl) (LO.nil (LOps.st rfl rfl rfl (LOp.store rfl rfl rfl rfl vt3 rfl rfl rfl rfl) (LOps.nil ?_)))))))))
    exact ⟨rfl, rfl⟩
structure F148W_L1 where
  t8 : Int
  o4_0 : Int
def F148W_s1 (c : Cf) (m : List (Int × Bool)) (x1 : F148W_L1) : Option (F148W_L1 ⊕ F148W_L1) :=
  bif decide (x1.t8 < (c.W.length : Int)) then
    (F117 x1.t8 c m).bind fun v2 =>
    bif v2 then
      (ix c.W x1.t8).bind fun y1 =>
      some (.inl (F148W_L1.mk (IntKind.i64.wrap (x1.t8 + 1)) (IntKind.i64.wrap (x1.o4_0 + y1))))
    else
      some (.inl (F148W_L1.mk (IntKind.i64.wrap (x1.t8 + 1)) x1.o4_0))
  else
    some (.inr (F148W_L1.mk x1.t8 x1.o4_0))
def F148W (c : Cf) (m : List (Int × Bool)) (n : Int) : Option Int :=
  (iter (F148W_s1 c m) big (F148W_L1.mk 0 n)).bind fun v1 =>
  some v1.o4_0
set_option maxRecDepth 100000 in
theorem cF148W {c : Cf} {m : List (Int × Bool)} {n : Int} {r_ : Int} (hr : F148W c m n = some r_) : LC Tryz.prog 133 [.yld 6, .cptr [.slice 1 (c.W.map i64P), .int .u64 c.Seed, .int .i64 c.Epoch, .int .i64 c.Num, .int .i64 c.Den], .fptr (.fn 186 [] [.ptr 2 0])] [.box [.p (.slice 1 (c.W.map i64P)), .p (.int .u64 c.Seed), .p (.int .i64 c.Epoch), .p (.int .i64 c.Num), .p (.int .i64 c.Den)], .map (entsOf i64P (fun v => .p (.bool v)) m), .box [.map 1], .box [.p (.slice 1 (c.W.map i64P)), .p (.int .u64 c.Seed), .p (.int .i64 c.Epoch), .p (.int .i64 c.Num), .p (.int .i64 c.Den)], .box [.p (.int .i64 n)], .defd, .loop false 21 [(2, .ptr 3 0), (4, .p (.int .i64 0)), (5, .ptr 4 0), (11, .fn 133 [] [.cptr [.slice 1 (c.W.map i64P), .int .u64 c.Seed, .int .i64 c.Epoch, .int .i64 c.Num, .int .i64 c.Den], .fptr (.fn 186 [] [.ptr 2 0])])] #[12] A116 B116] (Is (.tup []) [.box [.p (.slice 1 (c.W.map i64P)), .p (.int .u64 c.Seed), .p (.int .i64 c.Epoch), .p (.int .i64 c.Num), .p (.int .i64 c.Den)], .map (entsOf i64P (fun v => .p (.bool v)) m), .box [.map 1], .box [.p (.slice 1 (c.W.map i64P)), .p (.int .u64 c.Seed), .p (.int .i64 c.Epoch), .p (.int .i64 c.Num), .p (.int .i64 c.Den)], .box [.p (.int .i64 r_)], .defd, .loop false 21 [(2, .ptr 3 0), (4, .p (.int .i64 0)), (5, .ptr 4 0), (11, .fn 133 [] [.cptr [.slice 1 (c.W.map i64P), .int .u64 c.Seed, .int .i64 c.Epoch, .int .i64 c.Num, .int .i64 c.Den], .fptr (.fn 186 [] [.ptr 2 0])])] #[12] A116 B116]) := by
  refine LC.start Tryz.func133 rfl rfl rfl ?_
  unfold F148W at hr
  refine LW.seq (LW.region (LOps.st rfl rfl rfl (LOp.fieldAddrC rfl rfl ft55_0 rfl) (LOps.st rfl rfl rfl (LOp.loadC rfl rfl rfl vt49 rfl rfl) (LOps.st rfl rfl rfl (LOp.lenM rfl rfl (by kernel_rfl)) (LOps.st rfl rfl rfl (LOp.move rfl rfl) (LOps.nil (thn_n ?_)))))))
  obtain ⟨v1, hb_v1, ho_v1⟩ := bind_get hr
  clear hr
  refine LW.tail (E := []) (O := [.box [.p (.slice 1 (c.W.map i64P)), .p (.int .u64 c.Seed), .p (.int .i64 c.Epoch), .p (.int .i64 c.Num), .p (.int .i64 c.Den)], .map (entsOf i64P (fun v => .p (.bool v)) m), .box [.map 1], .box [.p (.slice 1 (c.W.map i64P)), .p (.int .u64 c.Seed), .p (.int .i64 c.Epoch), .p (.int .i64 c.Num), .p (.int .i64 c.Den)], .box [.p (.int .i64 v1.o4_0)], .defd, .loop false 21 [(2, .ptr 3 0), (4, .p (.int .i64 0)), (5, .ptr 4 0), (11, .fn 133 [] [.cptr [.slice 1 (c.W.map i64P), .int .u64 c.Seed, .int .i64 c.Epoch, .int .i64 c.Num, .int .i64 c.Den], .fptr (.fn 186 [] [.ptr 2 0])])] #[12] A116 B116]) ?_ (fun env_v1 H_v1 hw_v1 => ?_)
  · refine LW.block ?_
    refine LW.iterB (E := fun x1 : F148W_L1 => [(0, .yld 6), (2, .fptr (.fn 186 [] [.ptr 2 0])), (7, .p (.int .i64 (c.W.length : Int))), (8, .p (.int .i64 x1.t8))]) (O := fun x1 => [.box [.p (.slice 1 (c.W.map i64P)), .p (.int .u64 c.Seed), .p (.int .i64 c.Epoch), .p (.int .i64 c.Num), .p (.int .i64 c.Den)], .map (entsOf i64P (fun v => .p (.bool v)) m), .box [.map 1], .box [.p (.slice 1 (c.W.map i64P)), .p (.int .u64 c.Seed), .p (.int .i64 c.Epoch), .p (.int .i64 c.Num), .p (.int .i64 c.Den)], .box [.p (.int .i64 x1.o4_0)], .defd, .loop false 21 [(2, .ptr 3 0), (4, .p (.int .i64 0)), (5, .ptr 4 0), (11, .fn 133 [] [.cptr [.slice 1 (c.W.map i64P), .int .u64 c.Seed, .int .i64 c.Epoch, .int .i64 c.Num, .int .i64 c.Den], .fptr (.fn 186 [] [.ptr 2 0])])] #[12] A116 B116]) hb_v1 (Weak.of 7 ⟨rfl, rfl, rfl, rfl, trivial⟩ rfl rfl rfl (lowObjs_cons rfl (lowObjs_cons (entsLow (fun _ => rfl) _) (lowObjs_cons rfl (lowObjs_cons rfl (lowObjs_cons rfl (lowObjs_cons rfl (lowObjs_cons rfl rfl)))))))) (fun x1 z_x1 hr hb_x1 => ?_)
    unfold F148W_s1 at hr
    refine LW.seq (LW.region (LOps.st rfl rfl rfl (LOp.bin rfl rfl rfl rfl) (LOps.nil (thn_n (LW.seq ?_)))))
    refine LW.cond rfl (fun (g1 : (decide (x1.t8 < (c.W.length : Int))) = true) => ?_) (fun (g1 : (decide (x1.t8 < (c.W.length : Int))) = false) => ?_)
    ·
      have hr := ite_t g1 hr
      refine LW.skip (thn_n (LW.seq (LW.block (LW.seq (LW.region (LOps.st rfl rfl rfl (LOp.move rfl rfl) (LOps.st rfl rfl rfl (LOp.assign rfl rfl) (LOps.nil (thn_n (LW.seq (LW.regionI ?_)))))))))))
      refine LOpsI.st rfl rfl rfl (LOpI.of (LOp.loadF rfl rfl vt131) rfl) (LOpsI.st rfl rfl rfl (LOpI.of (LOp.move rfl rfl) rfl) ?_)
      obtain ⟨v2, h_v2, hr⟩ := bind_get hr
      refine LOpsI.st rfl rfl rfl (LOpI.of (LOp.call rfl rfl rfl (by kernel_rfl) (LC.pre (cF117 h_v2) rfl (lowObjs_cons rfl (lowObjs_cons (entsLow (fun _ => rfl) _) (lowObjs_cons rfl rfl))) rfl)) rfl) ?_
      refine LOpsI.st rfl rfl rfl (LOpI.of (LOp.move rfl rfl) rfl) ?_
      refine LOpsI.cases 14 rfl (fun (g2 : v2 = true) => ?_) (fun (g2 : v2 = false) => ?_)
      ·
        have hr := ite_t g2 hr
        refine LOpsI.gd rfl rfl rfl (gd g2 rfl) rfl (LOpI.of (LOp.move rfl rfl) rfl) (LOpsI.gd rfl rfl rfl (gd g2 rfl) rfl (LOpI.of (LOp.move rfl rfl) rfl) ?_)
        obtain ⟨y1, h_y1, hr⟩ := bind_get hr
        refine LOpsI.gd rfl rfl rfl (gd g2 rfl) rfl (y116W rfl rfl rfl h_y1) (LOpsI.gd rfl rfl rfl (gd g2 rfl) rfl (LOpI.of (LOp.not rfl rfl) rfl) (LOpsI.st rfl rfl rfl (LOpI.of (LOp.pickT rfl (gdl g2 rfl) rfl) rfl) (LOpsI.nil (thn_n (LW.condF rfl (LW.skip (inBlk_n (thn_n (LW.region (LOps.st rfl rfl rfl (LOp.bin rfl rfl rfl rfl) (LOps.st rfl rfl rfl (LOp.move rfl rfl) ?_)))))))))))
        refine LOps.nil (thn_n ?_)
        obtain rfl := Option.some.inj hr
        exact ⟨_, rfl, Weak.of 7 ⟨rfl, rfl, rfl, rfl, trivial⟩ rfl rfl rfl (lowObjs_cons rfl (lowObjs_cons (entsLow (fun _ => rfl) _) (lowObjs_cons rfl (lowObjs_cons rfl (lowObjs_cons rfl (lowObjs_cons rfl (lowObjs_cons rfl rfl)))))))⟩
      ·
        have hr := ite_f g2 hr
        refine LOpsI.sk rfl rfl rfl (gd g2 rfl) rfl rfl (LOpsI.sk rfl rfl rfl (gd g2 rfl) rfl rfl (LOpsI.sk rfl rfl rfl (gd g2 rfl) rfl rfl (LOpsI.sk rfl rfl rfl (gd g2 rfl) rfl rfl (LOpsI.st rfl rfl rfl (LOpI.of (LOp.pickF rfl (gdl g2 rfl) rfl) rfl) (LOpsI.nil (thn_n (LW.condF rfl (LW.skip (inBlk_n (thn_n (LW.region ?_)))))))))))
        refine LOps.st rfl rfl rfl (LOp.bin rfl rfl rfl rfl) (LOps.st rfl rfl rfl (LOp.move rfl rfl) (LOps.nil (thn_n ?_)))
        obtain rfl := Option.some.inj hr
        exact ⟨_, rfl, Weak.of 7 ⟨rfl, rfl, rfl, rfl, trivial⟩ rfl rfl rfl (lowObjs_cons rfl (lowObjs_cons (entsLow (fun _ => rfl) _) (lowObjs_cons rfl (lowObjs_cons rfl (lowObjs_cons rfl (lowObjs_cons rfl (lowObjs_cons rfl rfl)))))))⟩
    ·
      have hr := ite_f g1 hr
      refine LW.exit (thn_e (thn_e (inBlk_self (thn_n ?_))))
      obtain rfl := Option.some.inj hr
      have hr := congrArg some (hb_x1 _ rfl)
      obtain rfl := Option.some.inj hr
      exact Weak.of 7 trivial rfl rfl rfl (lowObjs_cons rfl (lowObjs_cons (entsLow (fun _ => rfl) _) (lowObjs_cons rfl (lowObjs_cons rfl (lowObjs_cons rfl (lowObjs_cons rfl (lowObjs_cons rfl rfl)))))))
  · have hr := ho_v1
    clear hb_v1
    obtain rfl := Option.some.inj hr
    exact fin_endW hw_v1 .none ⟨rfl, rfl⟩
def F116W (c : Cf) (m : List (Int × Bool)) : Option Int :=
  (F64 c).bind fun v1 =>
  bif !v1 then
    some 0
  else
    (F148W c m 0).bind fun v2 =>
    some v2
set_option maxRecDepth 100000 in
theorem cF116W {c : Cf} {m : List (Int × Bool)} {r_ : Int} (hr : F116W c m = some r_) : LC Tryz.prog 185 [.p (cfP c), .fn 133 [] [.cptr [.slice 1 (c.W.map i64P), .int .u64 c.Seed, .int .i64 c.Epoch, .int .i64 c.Num, .int .i64 c.Den], .fptr (.fn 186 [] [.ptr 2 0])]] [.box [.p (.slice 1 (c.W.map i64P)), .p (.int .u64 c.Seed), .p (.int .i64 c.Epoch), .p (.int .i64 c.Num), .p (.int .i64 c.Den)], .map (entsOf i64P (fun v => .p (.bool v)) m), .box [.map 1]] (Is (.p (.int .i64 r_)) [.box [.p (.slice 1 (c.W.map i64P)), .p (.int .u64 c.Seed), .p (.int .i64 c.Epoch), .p (.int .i64 c.Num), .p (.int .i64 c.Den)], .map (entsOf i64P (fun v => .p (.bool v)) m), .box [.map 1]]) := by
  refine LC.ofM Tryz.func185 rfl rfl rfl ?_
  unfold F116W at hr
  refine LWm.seqW (LW.region (LOps.st rfl rfl rfl (LOp.box rfl rfl rfl rfl rfl) (LOps.st rfl rfl rfl (LOp.assign rfl rfl) (LOps.nil (thn_n (LWm.seqW (LW.region (LOps.st rfl rfl rfl (LOp.alloc rfl zt3 rfl rfl) (LOps.st rfl rfl rfl (LOp.store rfl rfl rfl rfl vt3 rfl rfl rfl rfl) (LOps.nil (thn_n ?_)))))))))))
  refine LWm.seqW (LW.seq (LW.region (LOps.st rfl rfl rfl (LOp.load rfl rfl rfl vt55 rfl rfl) ?_)))
  obtain ⟨v1, h_v1, hr⟩ := bind_get hr
  refine LOps.st rfl rfl rfl (LOp.call rfl rfl rfl (by kernel_rfl) (LC.pure (c64 h_v1) (.cons Conv.p .nil))) (LOps.st rfl rfl rfl (LOp.not rfl rfl) (LOps.nil (thn_n ?_)))
  refine LW.cond rfl (fun (g1 : (!v1) = true) => ?_) (fun (g1 : (!v1) = false) => ?_)
  ·
    have hr := ite_t g1 hr
    refine LW.seq (LW.region (LOps.st rfl rfl rfl (LOp.load rfl rfl rfl vt3 rfl rfl) (LOps.st rfl rfl rfl (LOp.assign rfl rfl) (LOps.nil (thn_n (LW.ret (thn_r ?_)))))))
    obtain rfl := Option.some.inj hr
    refine fin_retW (env' := [(4, .p (.int .i64 0))]) (H' := [.box [.p (.slice 1 (c.W.map i64P)), .p (.int .u64 c.Seed), .p (.int .i64 c.Epoch), .p (.int .i64 c.Num), .p (.int .i64 c.Den)], .map (entsOf i64P (fun v => .p (.bool v)) m), .box [.map 1]]) (Weak.of 3 ⟨rfl, trivial⟩ rfl rfl rfl (lowObjs_cons rfl (lowObjs_cons (entsLow (fun _ => rfl) _) (lowObjs_cons rfl rfl)))) (.one (.tmp rfl)) ?_
    exact ⟨rfl, rfl⟩
  ·
    have hr := ite_f g1 hr
    refine LW.skip (thn_n (LWm.seq (LWm.seqW (LW.region (LOps.st rfl rfl rfl (LOp.move rfl rfl) (LOps.nil (thn_n ?_)))))))
    refine LWm.weak (env' := [(2, .ptr 3 0), (4, .p (.int .i64 0)), (5, .ptr 4 0), (11, .fn 133 [] [.cptr [.slice 1 (c.W.map i64P), .int .u64 c.Seed, .int .i64 c.Epoch, .int .i64 c.Num, .int .i64 c.Den], .fptr (.fn 186 [] [.ptr 2 0])])]) (H' := [.box [.p (.slice 1 (c.W.map i64P)), .p (.int .u64 c.Seed), .p (.int .i64 c.Epoch), .p (.int .i64 c.Num), .p (.int .i64 c.Den)], .map (entsOf i64P (fun v => .p (.bool v)) m), .box [.map 1], .box [.p (.slice 1 (c.W.map i64P)), .p (.int .u64 c.Seed), .p (.int .i64 c.Epoch), .p (.int .i64 c.Num), .p (.int .i64 c.Den)], .box [.p (.int .i64 0)]]) (Weak.of 5 ⟨rfl, rfl, rfl, rfl, trivial⟩ rfl rfl rfl (lowObjs_cons rfl (lowObjs_cons (entsLow (fun _ => rfl) _) (lowObjs_cons rfl (lowObjs_cons rfl (lowObjs_cons rfl rfl)))))) ?_
    refine LWm.block ?_
    obtain ⟨v2, h_v2, hr⟩ := bind_get hr
    refine LWm.rangeFunc rfl (by kernel_rfl) rfl (cF148W h_v2) rfl rfl rfl ?_
    refine ⟨rfl, ?_⟩
    refine thnM_n (LWm.seq (LWm.region (LOpsM.st rfl rfl rfl (LOp.load rfl rfl rfl vt3 rfl rfl) rfl (LOpsM.st rfl rfl rfl (LOp.assign rfl rfl) rfl (LOpsM.nil (thnM_n (LWm.ret ?_)))))))
    obtain rfl := Option.some.inj hr
    exact ⟨.inr rfl, _, [(4, .p (.int .i64 v2))], [.box [.p (.slice 1 (c.W.map i64P)), .p (.int .u64 c.Seed), .p (.int .i64 c.Epoch), .p (.int .i64 c.Num), .p (.int .i64 c.Den)], .map (entsOf i64P (fun v => .p (.bool v)) m), .box [.map 1]], _, rfl, Weak.of 3 ⟨rfl, trivial⟩ rfl rfl rfl (lowObjs_cons rfl (lowObjs_cons (entsLow (fun _ => rfl) _) (lowObjs_cons rfl rfl))), (.one (.tmp rfl)), ⟨rfl, rfl⟩⟩
open Go.Proofs
def F113 (i : Int) (c : Cf) (slot : Int) (at_ : List Int) : Option Bool :=
  (ix at_ i).bind fun y1 =>
  bif decide (c.Epoch ≠ 0) then
    bif decide (c.Epoch ≠ 0) then
      some ((y1.tmod c.Epoch) == (slot.tmod c.Epoch))
    else none
  else none
set_option maxRecDepth 100000 in
theorem cF113 {i : Int} {c : Cf} {slot : Int} {at_ : List Int} {r_ : Bool} (hr : F113 i c slot at_ = some r_) : LC Tryz.prog 107 [.p (.int .i64 i), .ptr 2 0, .ptr 0 0, .ptr 1 0] [.box [.p (.slice 1 (c.W.map i64P)), .p (.int .u64 c.Seed), .p (.int .i64 c.Epoch), .p (.int .i64 c.Num), .p (.int .i64 c.Den)], .box [.p (.int .i64 slot)], .box [.p (.slice 1 (at_.map i64P))]] (Is (.p (.bool r_)) [.box [.p (.slice 1 (c.W.map i64P)), .p (.int .u64 c.Seed), .p (.int .i64 c.Epoch), .p (.int .i64 c.Num), .p (.int .i64 c.Den)], .box [.p (.int .i64 slot)], .box [.p (.slice 1 (at_.map i64P))]]) := by
  refine LC.start Tryz.func107 rfl rfl rfl ?_
  unfold F113 at hr
  refine LW.seq (LW.region (LOps.st rfl rfl rfl (LOp.assign rfl rfl) (LOps.nil (thn_n (LW.seq (LW.draw (by kernel_rfl) (by kernel_rfl) (LO.st rfl rfl rfl (LOp.load rfl rfl rfl vt49 rfl rfl) (LO.st rfl rfl rfl (LOp.move rfl rfl) ?_))))))))
  obtain ⟨y1, h_y1, hr⟩ := bind_get hr
  refine LO.st rfl rfl rfl (LOp.indexAddrX rfl rfl rfl st49 h_y1 rfl) (LO.st rfl rfl rfl (LOp.loadC rfl rfl rfl vt3 rfl rfl) (LO.st rfl rfl rfl (LOp.fieldAddr rfl rfl ft55_2) (LO.st rfl rfl rfl (LOp.load rfl rfl rfl vt3 rfl rfl) ?_)))
  obtain ⟨q1, hr⟩ := grd_get hr
  refine LO.st rfl rfl rfl (LOp.rem rfl rfl rfl (of_decide_eq_true q1)) (LO.st rfl rfl rfl (LOp.load rfl rfl rfl vt3 rfl rfl) (LO.st rfl rfl rfl (LOp.fieldAddr rfl rfl ft55_2) (LO.st rfl rfl rfl (LOp.load rfl rfl rfl vt3 rfl rfl) ?_)))
  obtain ⟨q2, hr⟩ := grd_get hr
  refine LO.st rfl rfl rfl (LOp.rem rfl rfl rfl (of_decide_eq_true q2)) (LO.st rfl rfl rfl (LOp.bin rfl rfl rfl rfl) (LO.st rfl rfl rfl (LOp.assign rfl rfl) (LO.nil (thn_n (LW.ret ?_)))))
  obtain rfl := Option.some.inj hr
  refine fin_ret (.one (.tmp rfl)) ?_
  exact ⟨rfl, rfl⟩
set_option maxRecDepth 100000 in
theorem y147C {c : Cf} {slot : Int} {at_ : List Int} {l : List Int} {i : Int} {o : Oper} {env : Env} {fo xo : Operand} {ats : Array TypeId} (ho : o.op = .call { callee := .value fo, args := #[xo], argTypes := ats }) (hf : lev env fo = some (.yld 6)) (hx : lev env xo = some (.p (.int .i64 i))) (q : room l.length [i].length 8 = true) :
    LOpI Tryz.prog o env [.box [.p (.slice 1 (c.W.map i64P)), .p (.int .u64 c.Seed), .p (.int .i64 c.Epoch), .p (.int .i64 c.Num), .p (.int .i64 c.Den)], .box [.p (.int .i64 slot)], .box [.p (.slice 1 (at_.map i64P))], .box [.vec 1 4 (l.map i64P).length 0 (l.map i64P).length], .vec 1 (l.map i64P), .defd, .loop false 13 [(2, .ptr 3 0), (4, .zs), (6, .fn 133 [] [.cptr [.slice 1 (c.W.map i64P), .int .u64 c.Seed, .int .i64 c.Epoch, .int .i64 c.Num, .int .i64 c.Den], .fptr (.fn 107 [] [.ptr 2 0, .ptr 0 0, .ptr 1 0])])] #[7] A147 B147] (Is (.p (.bool true)) [.box [.p (.slice 1 (c.W.map i64P)), .p (.int .u64 c.Seed), .p (.int .i64 c.Epoch), .p (.int .i64 c.Num), .p (.int .i64 c.Den)], .box [.p (.int .i64 slot)], .box [.p (.slice 1 (at_.map i64P))], .box [.vec 1 4 ((l ++ [i]).map i64P).length 0 ((l ++ [i]).map i64P).length], .vec 1 ((l ++ [i]).map i64P), .defd, .loop false 13 [(2, .ptr 3 0), (4, .zs), (6, .fn 133 [] [.cptr [.slice 1 (c.W.map i64P), .int .u64 c.Seed, .int .i64 c.Epoch, .int .i64 c.Num, .int .i64 c.Den], .fptr (.fn 107 [] [.ptr 2 0, .ptr 0 0, .ptr 1 0])])] #[7] A147 B147]) := by
  refine LOpI.yield (env2 := (5, .p (.int .i64 i)) :: (7, .p (.int .i64 i)) :: [(2, .ptr 3 0), (4, .zs), (6, .fn 133 [] [.cptr [.slice 1 (c.W.map i64P), .int .u64 c.Seed, .int .i64 c.Epoch, .int .i64 c.Num, .int .i64 c.Den], .fptr (.fn 107 [] [.ptr 2 0, .ptr 0 0, .ptr 1 0])])]) (H2 := [.box [.p (.slice 1 (c.W.map i64P)), .p (.int .u64 c.Seed), .p (.int .i64 c.Epoch), .p (.int .i64 c.Num), .p (.int .i64 c.Den)], .box [.p (.int .i64 slot)], .box [.p (.slice 1 (at_.map i64P))], .box [.vec 1 4 ((l ++ [i]).map i64P).length 0 ((l ++ [i]).map i64P).length], .vec 1 ((l ++ [i]).map i64P), .defd, .loop true 13 [(2, .ptr 3 0), (4, .zs), (6, .fn 133 [] [.cptr [.slice 1 (c.W.map i64P), .int .u64 c.Seed, .int .i64 c.Epoch, .int .i64 c.Num, .int .i64 c.Den], .fptr (.fn 107 [] [.ptr 2 0, .ptr 0 0, .ptr 1 0])])] #[7] A147 B147]) ho hf hx rfl rfl (by kernel_rfl) (by kernel_rfl) rfl (LRg.plain ?_) (LRg.plain ?_) rfl rfl
  · refine LOps.st rfl rfl rfl (LOp.assign rfl rfl) ?_
    exact LOps.nil ⟨rfl, rfl, rfl⟩
  · refine LOps.st rfl rfl rfl (LOp.load rfl rfl rfl vt49 rfl rfl) ?_
    refine LOps.st rfl rfl rfl (LOp.move rfl rfl) (LOps.st rfl rfl rfl (LOp.buildSlice rfl st49 rfl rfl rfl rfl rfl) (LOps.st rfl rfl rfl (LOp.appendX i64P l [i] rfl rfl rfl rfl Src.p rfl st49 q rfl) (LOps.st rfl rfl rfl (LOp.store rfl rfl rfl rfl vt49 rfl rfl rfl rfl) (LOps.nil ?_))))
    exact ⟨rfl, rfl⟩
structure F148C_L1 where
  t8 : Int
  o4 : List Int
def F148C_s1 (c : Cf) (slot : Int) (at_ : List Int) (x1 : F148C_L1) : Option (F148C_L1 ⊕ F148C_L1) :=
  bif decide (x1.t8 < (c.W.length : Int)) then
    (F113 x1.t8 c slot at_).bind fun v2 =>
    bif v2 then
      bif room x1.o4.length [x1.t8].length 8 then
        some (.inl (F148C_L1.mk (IntKind.i64.wrap (x1.t8 + 1)) (x1.o4 ++ [x1.t8])))
      else none
    else
      some (.inl (F148C_L1.mk (IntKind.i64.wrap (x1.t8 + 1)) x1.o4))
  else
    some (.inr (F148C_L1.mk x1.t8 x1.o4))
def F148C (c : Cf) (slot : Int) (at_ : List Int) (l : List Int) : Option (List Int) :=
  (iter (F148C_s1 c slot at_) big (F148C_L1.mk 0 l)).bind fun v1 =>
  some v1.o4
set_option maxRecDepth 100000 in
theorem cF148C {c : Cf} {slot : Int} {at_ : List Int} {l : List Int} {r_ : List Int} (hr : F148C c slot at_ l = some r_) : LC Tryz.prog 133 [.yld 6, .cptr [.slice 1 (c.W.map i64P), .int .u64 c.Seed, .int .i64 c.Epoch, .int .i64 c.Num, .int .i64 c.Den], .fptr (.fn 107 [] [.ptr 2 0, .ptr 0 0, .ptr 1 0])] [.box [.p (.slice 1 (c.W.map i64P)), .p (.int .u64 c.Seed), .p (.int .i64 c.Epoch), .p (.int .i64 c.Num), .p (.int .i64 c.Den)], .box [.p (.int .i64 slot)], .box [.p (.slice 1 (at_.map i64P))], .box [.vec 1 4 (l.map i64P).length 0 (l.map i64P).length], .vec 1 (l.map i64P), .defd, .loop false 13 [(2, .ptr 3 0), (4, .zs), (6, .fn 133 [] [.cptr [.slice 1 (c.W.map i64P), .int .u64 c.Seed, .int .i64 c.Epoch, .int .i64 c.Num, .int .i64 c.Den], .fptr (.fn 107 [] [.ptr 2 0, .ptr 0 0, .ptr 1 0])])] #[7] A147 B147] (Is (.tup []) [.box [.p (.slice 1 (c.W.map i64P)), .p (.int .u64 c.Seed), .p (.int .i64 c.Epoch), .p (.int .i64 c.Num), .p (.int .i64 c.Den)], .box [.p (.int .i64 slot)], .box [.p (.slice 1 (at_.map i64P))], .box [.vec 1 4 (r_.map i64P).length 0 (r_.map i64P).length], .vec 1 (r_.map i64P), .defd, .loop false 13 [(2, .ptr 3 0), (4, .zs), (6, .fn 133 [] [.cptr [.slice 1 (c.W.map i64P), .int .u64 c.Seed, .int .i64 c.Epoch, .int .i64 c.Num, .int .i64 c.Den], .fptr (.fn 107 [] [.ptr 2 0, .ptr 0 0, .ptr 1 0])])] #[7] A147 B147]) := by
  refine LC.start Tryz.func133 rfl rfl rfl ?_
  unfold F148C at hr
  refine LW.seq (LW.region (LOps.st rfl rfl rfl (LOp.fieldAddrC rfl rfl ft55_0 rfl) (LOps.st rfl rfl rfl (LOp.loadC rfl rfl rfl vt49 rfl rfl) (LOps.st rfl rfl rfl (LOp.lenM rfl rfl (by kernel_rfl)) (LOps.st rfl rfl rfl (LOp.move rfl rfl) (LOps.nil (thn_n ?_)))))))
  obtain ⟨v1, hb_v1, ho_v1⟩ := bind_get hr
  clear hr
  refine LW.tail (E := []) (O := [.box [.p (.slice 1 (c.W.map i64P)), .p (.int .u64 c.Seed), .p (.int .i64 c.Epoch), .p (.int .i64 c.Num), .p (.int .i64 c.Den)], .box [.p (.int .i64 slot)], .box [.p (.slice 1 (at_.map i64P))], .box [.vec 1 4 (v1.o4.map i64P).length 0 (v1.o4.map i64P).length], .vec 1 (v1.o4.map i64P), .defd, .loop false 13 [(2, .ptr 3 0), (4, .zs), (6, .fn 133 [] [.cptr [.slice 1 (c.W.map i64P), .int .u64 c.Seed, .int .i64 c.Epoch, .int .i64 c.Num, .int .i64 c.Den], .fptr (.fn 107 [] [.ptr 2 0, .ptr 0 0, .ptr 1 0])])] #[7] A147 B147]) ?_ (fun env_v1 H_v1 hw_v1 => ?_)
  · refine LW.block ?_
    refine LW.iterB (E := fun x1 : F148C_L1 => [(0, .yld 6), (2, .fptr (.fn 107 [] [.ptr 2 0, .ptr 0 0, .ptr 1 0])), (7, .p (.int .i64 (c.W.length : Int))), (8, .p (.int .i64 x1.t8))]) (O := fun x1 => [.box [.p (.slice 1 (c.W.map i64P)), .p (.int .u64 c.Seed), .p (.int .i64 c.Epoch), .p (.int .i64 c.Num), .p (.int .i64 c.Den)], .box [.p (.int .i64 slot)], .box [.p (.slice 1 (at_.map i64P))], .box [.vec 1 4 (x1.o4.map i64P).length 0 (x1.o4.map i64P).length], .vec 1 (x1.o4.map i64P), .defd, .loop false 13 [(2, .ptr 3 0), (4, .zs), (6, .fn 133 [] [.cptr [.slice 1 (c.W.map i64P), .int .u64 c.Seed, .int .i64 c.Epoch, .int .i64 c.Num, .int .i64 c.Den], .fptr (.fn 107 [] [.ptr 2 0, .ptr 0 0, .ptr 1 0])])] #[7] A147 B147]) hb_v1 (Weak.of 7 ⟨rfl, rfl, rfl, rfl, trivial⟩ rfl rfl rfl rfl) (fun x1 z_x1 hr hb_x1 => ?_)
    unfold F148C_s1 at hr
    refine LW.seq (LW.region (LOps.st rfl rfl rfl (LOp.bin rfl rfl rfl rfl) (LOps.nil (thn_n (LW.seq ?_)))))
    refine LW.cond rfl (fun (g1 : (decide (x1.t8 < (c.W.length : Int))) = true) => ?_) (fun (g1 : (decide (x1.t8 < (c.W.length : Int))) = false) => ?_)
    ·
      have hr := ite_t g1 hr
      refine LW.skip (thn_n (LW.seq (LW.block (LW.seq (LW.region (LOps.st rfl rfl rfl (LOp.move rfl rfl) (LOps.st rfl rfl rfl (LOp.assign rfl rfl) (LOps.nil (thn_n (LW.seq (LW.regionI ?_)))))))))))
      refine LOpsI.st rfl rfl rfl (LOpI.of (LOp.loadF rfl rfl vt131) rfl) (LOpsI.st rfl rfl rfl (LOpI.of (LOp.move rfl rfl) rfl) ?_)
      obtain ⟨v2, h_v2, hr⟩ := bind_get hr
      refine LOpsI.st rfl rfl rfl (LOpI.of (LOp.call rfl rfl rfl (by kernel_rfl) (LC.pre (cF113 h_v2) rfl rfl rfl)) rfl) (LOpsI.st rfl rfl rfl (LOpI.of (LOp.move rfl rfl) rfl) ?_)
      refine LOpsI.cases 14 rfl (fun (g2 : v2 = true) => ?_) (fun (g2 : v2 = false) => ?_)
      ·
        have hr := ite_t g2 hr
        refine LOpsI.gd rfl rfl rfl (gd g2 rfl) rfl (LOpI.of (LOp.move rfl rfl) rfl) (LOpsI.gd rfl rfl rfl (gd g2 rfl) rfl (LOpI.of (LOp.move rfl rfl) rfl) ?_)
        obtain ⟨q1, hr⟩ := grd_get hr
        refine LOpsI.gd rfl rfl rfl (gd g2 rfl) rfl (y147C rfl rfl rfl q1) (LOpsI.gd rfl rfl rfl (gd g2 rfl) rfl (LOpI.of (LOp.not rfl rfl) rfl) (LOpsI.st rfl rfl rfl (LOpI.of (LOp.pickT rfl (gdl g2 rfl) rfl) rfl) (LOpsI.nil (thn_n (LW.condF rfl (LW.skip (inBlk_n (thn_n (LW.region (LOps.st rfl rfl rfl (LOp.bin rfl rfl rfl rfl) (LOps.st rfl rfl rfl (LOp.move rfl rfl) ?_)))))))))))
        refine LOps.nil (thn_n ?_)
        obtain rfl := Option.some.inj hr
        exact ⟨_, rfl, Weak.of 7 ⟨rfl, rfl, rfl, rfl, trivial⟩ rfl rfl rfl rfl⟩
      ·
        have hr := ite_f g2 hr
        refine LOpsI.sk rfl rfl rfl (gd g2 rfl) rfl rfl (LOpsI.sk rfl rfl rfl (gd g2 rfl) rfl rfl (LOpsI.sk rfl rfl rfl (gd g2 rfl) rfl rfl (LOpsI.sk rfl rfl rfl (gd g2 rfl) rfl rfl (LOpsI.st rfl rfl rfl (LOpI.of (LOp.pickF rfl (gdl g2 rfl) rfl) rfl) (LOpsI.nil (thn_n (LW.condF rfl (LW.skip (inBlk_n (thn_n (LW.region ?_)))))))))))
        refine LOps.st rfl rfl rfl (LOp.bin rfl rfl rfl rfl) (LOps.st rfl rfl rfl (LOp.move rfl rfl) (LOps.nil (thn_n ?_)))
        obtain rfl := Option.some.inj hr
        exact ⟨_, rfl, Weak.of 7 ⟨rfl, rfl, rfl, rfl, trivial⟩ rfl rfl rfl rfl⟩
    ·
      have hr := ite_f g1 hr
      refine LW.exit (thn_e (thn_e (inBlk_self (thn_n ?_))))
      obtain rfl := Option.some.inj hr
      have hr := congrArg some (hb_x1 _ rfl)
      obtain rfl := Option.some.inj hr
      exact Weak.of 7 trivial rfl rfl rfl rfl
  · have hr := ho_v1
    clear hb_v1
    obtain rfl := Option.some.inj hr
    exact fin_endW hw_v1 .none ⟨rfl, rfl⟩
def F147C (c : Cf) (slot : Int) (at_ : List Int) : Option (List Int) :=
  (F148C c slot at_ []).bind fun v1 =>
  some v1
set_option maxRecDepth 100000 in
theorem cF147C {c : Cf} {slot : Int} {at_ : List Int} {r_ : List Int} (hr : F147C c slot at_ = some r_) : LC Tryz.prog 132 [.zs, .fn 133 [] [.cptr [.slice 1 (c.W.map i64P), .int .u64 c.Seed, .int .i64 c.Epoch, .int .i64 c.Num, .int .i64 c.Den], .fptr (.fn 107 [] [.ptr 2 0, .ptr 0 0, .ptr 1 0])]] [.box [.p (.slice 1 (c.W.map i64P)), .p (.int .u64 c.Seed), .p (.int .i64 c.Epoch), .p (.int .i64 c.Num), .p (.int .i64 c.Den)], .box [.p (.int .i64 slot)], .box [.p (.slice 1 (at_.map i64P))]] (Is (.vec 1 4 (r_.map i64P).length 0 (r_.map i64P).length) [.box [.p (.slice 1 (c.W.map i64P)), .p (.int .u64 c.Seed), .p (.int .i64 c.Epoch), .p (.int .i64 c.Num), .p (.int .i64 c.Den)], .box [.p (.int .i64 slot)], .box [.p (.slice 1 (at_.map i64P))], .box [.vec 1 4 (r_.map i64P).length 0 (r_.map i64P).length], .vec 1 (r_.map i64P), .dead, .dead]) := by
  refine LC.ofM Tryz.func132 rfl rfl rfl ?_
  unfold F147C at hr
  refine LWm.seqW (LW.region (LOps.st rfl rfl rfl (LOp.box rfl rfl rfl rfl rfl) (LOps.st rfl rfl rfl (LOp.assign rfl rfl) (LOps.nil (thn_n (LWm.seq (LWm.seqW (LW.region (LOps.st rfl rfl rfl (LOp.move rfl rfl) (LOps.nil (thn_n ?_)))))))))))
  refine LWm.ent (Ent.lazyCell (i := 3) (j := 0) (m := 1) rfl rfl rfl rfl rfl rfl) (LWm.weak (env' := [(2, .ptr 3 0), (4, .zs), (6, .fn 133 [] [.cptr [.slice 1 (c.W.map i64P), .int .u64 c.Seed, .int .i64 c.Epoch, .int .i64 c.Num, .int .i64 c.Den], .fptr (.fn 107 [] [.ptr 2 0, .ptr 0 0, .ptr 1 0])])]) (H' := [.box [.p (.slice 1 (c.W.map i64P)), .p (.int .u64 c.Seed), .p (.int .i64 c.Epoch), .p (.int .i64 c.Num), .p (.int .i64 c.Den)], .box [.p (.int .i64 slot)], .box [.p (.slice 1 (at_.map i64P))], .box [.vec 1 4 (([] : List Int).map i64P).length 0 (([] : List Int).map i64P).length], .vec 1 (([] : List Int).map i64P)]) (Weak.of 5 ⟨rfl, rfl, rfl, trivial⟩ rfl rfl rfl rfl) (LWm.block ?_))
  obtain ⟨v1, h_v1, hr⟩ := bind_get hr
  refine LWm.rangeFunc rfl (by kernel_rfl) rfl (cF148C h_v1) rfl rfl rfl ?_
  refine ⟨rfl, ?_⟩
  refine thnM_n (LWm.seq (LWm.region (LOpsM.st rfl rfl rfl (LOp.load rfl rfl rfl vt49 rfl rfl) rfl (LOpsM.st rfl rfl rfl (LOp.assign rfl rfl) rfl (LOpsM.nil (thnM_n (LWm.ret ?_)))))))
  obtain rfl := Option.some.inj hr
  exact ⟨.inr rfl, _, [(4, .vec 1 4 (v1.map i64P).length 0 (v1.map i64P).length)], [.box [.p (.slice 1 (c.W.map i64P)), .p (.int .u64 c.Seed), .p (.int .i64 c.Epoch), .p (.int .i64 c.Num), .p (.int .i64 c.Den)], .box [.p (.int .i64 slot)], .box [.p (.slice 1 (at_.map i64P))], .box [.vec 1 4 (v1.map i64P).length 0 (v1.map i64P).length], .vec 1 (v1.map i64P), .dead, .dead], _, rfl, Weak.of 7 ⟨rfl, trivial⟩ rfl rfl rfl rfl, (.one (.tmp rfl)), ⟨rfl, rfl⟩⟩
def F111C (c : Cf) (slot : Int) (at_ : List Int) : Option (List Int) :=
  (F147C c slot at_).bind fun v1 =>
  some v1
set_option maxRecDepth 100000 in
theorem cF111C {c : Cf} {slot : Int} {at_ : List Int} {r_ : List Int} (hr : F111C c slot at_ = some r_) : LC Tryz.prog 105 [.fn 133 [] [.cptr [.slice 1 (c.W.map i64P), .int .u64 c.Seed, .int .i64 c.Epoch, .int .i64 c.Num, .int .i64 c.Den], .fptr (.fn 107 [] [.ptr 2 0, .ptr 0 0, .ptr 1 0])]] [.box [.p (.slice 1 (c.W.map i64P)), .p (.int .u64 c.Seed), .p (.int .i64 c.Epoch), .p (.int .i64 c.Num), .p (.int .i64 c.Den)], .box [.p (.int .i64 slot)], .box [.p (.slice 1 (at_.map i64P))]] (Is (.vec 1 4 (r_.map i64P).length 0 (r_.map i64P).length) [.box [.p (.slice 1 (c.W.map i64P)), .p (.int .u64 c.Seed), .p (.int .i64 c.Epoch), .p (.int .i64 c.Num), .p (.int .i64 c.Den)], .box [.p (.int .i64 slot)], .box [.p (.slice 1 (at_.map i64P))], .box [.vec 1 4 (r_.map i64P).length 0 (r_.map i64P).length], .vec 1 (r_.map i64P), .dead, .dead]) := by
  refine LC.start Tryz.func105 rfl rfl rfl ?_
  unfold F111C at hr
  refine LW.seq (LW.region (LOps.st rfl rfl rfl (LOp.assign rfl rfl) (LOps.nil (thn_n (LW.seq (LW.region (LOps.st rfl rfl rfl (LOp.move rfl rfl) ?_)))))))
  obtain ⟨v1, h_v1, hr⟩ := bind_get hr
  refine LOps.st rfl rfl rfl (LOp.call rfl rfl rfl (by kernel_rfl) (cF147C h_v1)) (LOps.st rfl rfl rfl (LOp.assign rfl rfl) (LOps.nil (thn_n (LW.ret ?_))))
  obtain rfl := Option.some.inj hr
  refine fin_ret (.one (.tmp rfl)) ?_
  exact ⟨rfl, rfl⟩
open Go.Proofs
structure F57_L1 where
  i : Int
  r : Int
open Go.Proofs
structure F69_L1 where
  i : Int
  out : List Int
open Go.Proofs
structure F70_L1 where
  t11 : Int
  o1 : List (Int × Bool)
def F70_s1 (l : List Int) (x1 : F70_L1) : Option (F70_L1 ⊕ F70_L1) :=
  bif decide (x1.t11 < (l.length : Int)) then
    (ix l x1.t11).bind fun y1 =>
    some (.inl (F70_L1.mk (IntKind.i64.wrap (x1.t11 + 1)) (setE x1.o1 y1 true)))
  else
    some (.inr (F70_L1.mk x1.t11 x1.o1))
def F70 (c : Cf) (l : List Int) : Option Int :=
  (iter (F70_s1 l) big (F70_L1.mk 0 ([] : List (Int × Bool)))).bind fun v1 =>
  (F116W c v1.o1).bind fun v2 =>
  some v2
set_option maxRecDepth 100000 in
theorem c70 {c : Cf} {l : List Int} {r_ : Int} (hr : F70 c l = some r_) : LPure Tryz.prog 156 [cfP c, .slice 1 (l.map i64P)] [.int .i64 r_] := by
  refine LPure.start Tryz.func156 rfl rfl rfl rfl ?_
  unfold F70 at hr
  refine LW.seq (LW.region (LOps.st rfl rfl rfl (LOp.box rfl rfl rfl rfl rfl) (LOps.st rfl rfl rfl (LOp.assign rfl rfl) (LOps.nil (thn_n (LW.seq (LW.region (LOps.st rfl rfl rfl (LOp.makeMap rfl rfl rfl) (LOps.st rfl rfl rfl (LOp.alloc rfl zt132 rfl rfl) (LOps.st rfl rfl rfl (LOp.store rfl rfl rfl rfl vt132 rfl rfl rfl rfl) (LOps.nil ?_)))))))))))
  refine thn_n (LW.seq (LW.seq (LW.region (LOps.st rfl rfl rfl (LOp.move rfl rfl) (LOps.st rfl rfl rfl (LOp.lenM rfl rfl (by kernel_rfl)) (LOps.st rfl rfl rfl (LOp.move rfl rfl) (LOps.nil (thn_n ?_))))))))
  obtain ⟨v1, hb_v1, ho_v1⟩ := bind_get hr
  clear hr
  refine LW.tail (E := [(2, .ptr 0 0), (4, .p (.int .i64 0)), (5, .ptr 2 0)]) (O := [.box [.p (.slice 1 (c.W.map i64P)), .p (.int .u64 c.Seed), .p (.int .i64 c.Epoch), .p (.int .i64 c.Num), .p (.int .i64 c.Den)], .map (entsOf i64P (fun v => .p (.bool v)) v1.o1), .box [.map 1]]) ?_ (fun env_v1 H_v1 hw_v1 => ?_)
  · refine LW.block ?_
    refine LW.iterB (E := fun x1 : F70_L1 => [(2, .ptr 0 0), (4, .p (.int .i64 0)), (5, .ptr 2 0), (9, .p (.slice 1 (l.map i64P))), (10, .p (.int .i64 (l.length : Int))), (11, .p (.int .i64 x1.t11))]) (O := fun x1 => [.box [.p (.slice 1 (c.W.map i64P)), .p (.int .u64 c.Seed), .p (.int .i64 c.Epoch), .p (.int .i64 c.Num), .p (.int .i64 c.Den)], .map (entsOf i64P (fun v => .p (.bool v)) x1.o1), .box [.map 1]]) hb_v1 (Weak.of 3 ⟨rfl, rfl, rfl, rfl, rfl, rfl, trivial⟩ rfl rfl rfl (lowObjs_cons rfl (lowObjs_cons (entsLow (fun _ => rfl) _) (lowObjs_cons rfl rfl)))) (fun x1 z_x1 hr hb_x1 => ?_)
    unfold F70_s1 at hr
    refine LW.seq (LW.region (LOps.st rfl rfl rfl (LOp.bin rfl rfl rfl rfl) (LOps.nil (thn_n (LW.seq ?_)))))
    refine LW.cond rfl (fun (g1 : (decide (x1.t11 < (l.length : Int))) = true) => ?_) (fun (g1 : (decide (x1.t11 < (l.length : Int))) = false) => ?_)
    ·
      have hr := ite_t g1 hr
      refine LW.skip (thn_n (LW.seq (LW.block (LW.seq (LW.region ?_)))))
      obtain ⟨y1, h_y1, hr⟩ := bind_get hr
      refine LOps.st rfl rfl rfl (LOp.indexAddrX rfl rfl rfl st49 h_y1 rfl) (LOps.st rfl rfl rfl (LOp.loadC rfl rfl rfl vt3 rfl rfl) (LOps.st rfl rfl rfl (LOp.assign rfl rfl) (LOps.nil (thn_n (LW.region (LOps.st rfl rfl rfl (LOp.load rfl rfl rfl vt132 rfl rfl) (LOps.st rfl rfl rfl (LOp.move rfl rfl) ?_)))))))
      refine LOps.st rfl rfl rfl (LOp.setX (f := i64P) (g := (fun v => .p (.bool v))) y1 true i64Key (.inl rfl) rfl rfl rfl rfl rfl mt132 rfl) ?_
      refine LOps.nil (inBlk_n (thn_n (LW.region (LOps.st rfl rfl rfl (LOp.bin rfl rfl rfl rfl) (LOps.st rfl rfl rfl (LOp.move rfl rfl) (LOps.nil (thn_n ?_)))))))
      obtain rfl := Option.some.inj hr
      exact ⟨_, rfl, Weak.of 3 ⟨rfl, rfl, rfl, rfl, rfl, rfl, trivial⟩ rfl rfl rfl (lowObjs_cons rfl (lowObjs_cons (entsLow (fun _ => rfl) _) (lowObjs_cons rfl rfl)))⟩
    ·
      have hr := ite_f g1 hr
      refine LW.exit (thn_e (thn_e (inBlk_self (thn_n ?_))))
      obtain rfl := Option.some.inj hr
      have hr := congrArg some (hb_x1 _ rfl)
      obtain rfl := Option.some.inj hr
      exact Weak.of 3 ⟨rfl, rfl, rfl, trivial⟩ rfl rfl rfl (lowObjs_cons rfl (lowObjs_cons (entsLow (fun _ => rfl) _) (lowObjs_cons rfl rfl)))
  · have hr := ho_v1
    clear hb_v1
    refine thn_n (LW.weak hw_v1 (LW.seq (LW.draw (by kernel_rfl) (by kernel_rfl) (LO.st rfl rfl rfl (LOp.load rfl rfl rfl vt55 rfl rfl) (LO.st rfl rfl rfl (LOp.load rfl rfl rfl vt55 rfl rfl) (LO.st rfl rfl rfl (LOp.makeFunc rfl rfl rfl) (LO.st rfl rfl rfl (LOp.call rfl rfl rfl (by kernel_rfl) (c112 (c := c))) ?_)))))))
    obtain ⟨v2, h_v2, hr⟩ := bind_get hr
    refine LO.st rfl rfl rfl (LOp.call rfl rfl rfl (by kernel_rfl) (cF116W h_v2)) (LO.st rfl rfl rfl (LOp.assign rfl rfl) (LO.nil (thn_n (LW.ret ?_))))
    obtain rfl := Option.some.inj hr
    refine finP_ret (.one (.tmp rfl)) ?_
    exact Conv.p
def F65 (c : Cf) (slot : Int) : Option (List Int) :=
  (F107 c slot).bind fun v1 =>
  bif !v1 then
    some []
  else
    bif decide (c.Epoch ≠ 0) then
      (F60 (step c.Seed (IntKind.u64.wrap (IntKind.i64.wrap (slot.tdiv c.Epoch)))) (c.W.length : Int)).bind fun v2 =>
      (F111C c slot v2).bind fun v3 =>
      some v3
    else none
set_option maxRecDepth 100000 in
theorem c65 {c : Cf} {slot : Int} {r_ : (List Int)} (hr : F65 c slot = some r_) : LPure Tryz.prog 66 [cfP c, .int .i64 slot] [.slice 1 (r_.map i64P)] := by
  refine LPure.start Tryz.func66 rfl rfl rfl rfl ?_
  unfold F65 at hr
  refine LW.seq (LW.region (LOps.st rfl rfl rfl (LOp.box rfl rfl rfl rfl rfl) (LOps.st rfl rfl rfl (LOp.box rfl rfl rfl rfl rfl) (LOps.st rfl rfl rfl (LOp.assign rfl rfl) (LOps.nil (thn_n (LW.seq (LW.seq (LW.region (LOps.st rfl rfl rfl (LOp.load rfl rfl rfl vt55 rfl rfl) (LOps.st rfl rfl rfl (LOp.load rfl rfl rfl vt3 rfl rfl) ?_)))))))))))
  obtain ⟨v1, h_v1, hr⟩ := bind_get hr
  refine LOps.st rfl rfl rfl (LOp.call rfl rfl rfl (by kernel_rfl) (LC.pure (c107 h_v1) (.cons Conv.p (.cons Conv.p .nil)))) (LOps.st rfl rfl rfl (LOp.not rfl rfl) (LOps.nil (thn_n ?_)))
  refine LW.cond rfl (fun (g1 : (!v1) = true) => ?_) (fun (g1 : (!v1) = false) => ?_)
  ·
    have hr := ite_t g1 hr
    refine LW.seq (LW.region (LOps.st rfl rfl rfl (LOp.assign rfl rfl) (LOps.nil (thn_n (LW.ret (thn_r ?_))))))
    obtain rfl := Option.some.inj hr
    refine finP_ret (.one (.tmp rfl)) ?_
    exact Conv.zs
  ·
    have hr := ite_f g1 hr
    refine LW.skip (thn_n (LW.seq (LW.ent (Ent.slot rfl) (LW.drawW (by kernel_rfl) (by kernel_rfl) ?_))))
    refine LF.st (F := []) (s := none) rfl rfl rfl (fun H _ => LOp.fieldAddr rfl rfl ft55_1) rfl ?_
    refine LF.st rfl rfl rfl (LAt.load rfl rfl rfl vt22 rfl rfl) rfl (LF.st rfl rfl rfl (LAt.load rfl rfl rfl vt3 rfl rfl) rfl ?_)
    refine LF.st (F := []) (s := none) rfl rfl rfl (fun H _ => LOp.fieldAddr rfl rfl ft55_2) rfl ?_
    refine LF.st rfl rfl rfl (LAt.load rfl rfl rfl vt3 rfl rfl) rfl ?_
    obtain ⟨q1, hr⟩ := grd_get hr
    refine LF.st (F := []) (s := none) rfl rfl rfl (fun H _ => LOp.quo rfl rfl rfl (of_decide_eq_true q1)) rfl ?_
    refine LF.st (F := []) (s := none) rfl rfl rfl (fun H _ => LOp.convert (k' := .u64) rfl rfl (by kernel_rfl)) rfl ?_
    refine LF.st (F := []) (s := none) rfl rfl rfl (fun H _ => LOp.call rfl rfl rfl (by kernel_rfl) (LC.pure (c108 (h := c.Seed) (x := (IntKind.u64.wrap (IntKind.i64.wrap (slot.tdiv c.Epoch))))) (.cons Conv.p (.cons Conv.p .nil)))) rfl ?_
    refine LF.st (F := []) (s := none) rfl rfl rfl (fun H _ => LOp.fieldAddr rfl rfl ft55_0) rfl ?_
    refine LF.st rfl rfl rfl (LAt.load rfl rfl rfl vt49 rfl rfl) rfl ?_
    refine LF.st (F := []) (s := none) rfl rfl rfl (fun H _ => LOp.lenM rfl rfl (by kernel_rfl)) rfl ?_
    obtain ⟨v2, h_v2, hr⟩ := bind_get hr
    refine LF.st (F := []) (s := none) rfl rfl rfl (fun H _ => LOp.call rfl rfl rfl (by kernel_rfl) (LC.pure (c60 h_v2) (.cons Conv.p (.cons Conv.p .nil)))) rfl ?_
    refine LF.st rfl rfl rfl (LAt.alloc rfl zt49 (id := 2) rfl) rfl (LF.st rfl rfl rfl (LAt.store rfl rfl rfl rfl vt49 rfl rfl rfl) rfl ?_)
    refine LF.nil ⟨by kernel_rfl, ?_⟩
    refine thn_n (LW.seq (LW.region (LOps.st rfl rfl rfl (LOp.load rfl rfl rfl vt55 rfl rfl) (LOps.st rfl rfl rfl (LOp.makeFunc rfl rfl rfl) (LOps.st rfl rfl rfl (LOp.call rfl rfl rfl (by kernel_rfl) (c112 (c := c))) ?_)))))
    obtain ⟨v3, h_v3, hr⟩ := bind_get hr
    refine LOps.st rfl rfl rfl (LOp.call rfl rfl rfl (by kernel_rfl) (cF111C h_v3)) (LOps.st rfl rfl rfl (LOp.assign rfl rfl) (LOps.nil (thn_n (LW.ret ?_))))
    obtain rfl := Option.some.inj hr
    refine finP_ret (.one (.tmp rfl)) ?_
    exact (Conv.vecAll rfl rfl rfl)
def F63 (c : Cf) (slot : Int) : Option Int :=
  (F107 c slot).bind fun v1 =>
  bif !v1 then
    some (-1)
  else
    bif decide ((IntKind.u64.wrap ((c.W.length : Int))) ≠ 0) then
      some (IntKind.i64.wrap ((step (step c.Seed 4294967296) (IntKind.u64.wrap (slot))).tmod (IntKind.u64.wrap ((c.W.length : Int)))))
    else none
set_option maxRecDepth 100000 in
theorem c63 {c : Cf} {slot : Int} {r_ : Int} (hr : F63 c slot = some r_) : LPure Tryz.prog 21 [cfP c, .int .i64 slot] [.int .i64 r_] := by
  refine LPure.start Tryz.func21 rfl rfl rfl rfl ?_
  unfold F63 at hr
  refine LW.seq (LW.region (LOps.st rfl rfl rfl (LOp.box rfl rfl rfl rfl rfl) (LOps.st rfl rfl rfl (LOp.assign rfl rfl) (LOps.nil (thn_n (LW.seq (LW.seq (LW.region (LOps.st rfl rfl rfl (LOp.load rfl rfl rfl vt55 rfl rfl) (LOps.st rfl rfl rfl (LOp.move rfl rfl) ?_))))))))))
  obtain ⟨v1, h_v1, hr⟩ := bind_get hr
  refine LOps.st rfl rfl rfl (LOp.call rfl rfl rfl (by kernel_rfl) (LC.pure (c107 h_v1) (.cons Conv.p (.cons Conv.p .nil)))) (LOps.st rfl rfl rfl (LOp.not rfl rfl) (LOps.nil (thn_n ?_)))
  refine LW.cond rfl (fun (g1 : (!v1) = true) => ?_) (fun (g1 : (!v1) = false) => ?_)
  ·
    have hr := ite_t g1 hr
    refine LW.seq (LW.region (LOps.st rfl rfl rfl (LOp.assign rfl rfl) (LOps.nil (thn_n (LW.ret (thn_r ?_))))))
    obtain rfl := Option.some.inj hr
    refine finP_ret (.one (.tmp rfl)) ?_
    exact Conv.p
  ·
    have hr := ite_f g1 hr
    refine LW.skip (thn_n (LW.seq (LW.draw (by kernel_rfl) (by kernel_rfl) (LO.st rfl rfl rfl (LOp.fieldAddr rfl rfl ft55_1) (LO.st rfl rfl rfl (LOp.load rfl rfl rfl vt22 rfl rfl) (LO.st rfl rfl rfl (LOp.call rfl rfl rfl (by kernel_rfl) (LC.pure (c108 (h := c.Seed) (x := 4294967296)) (.cons Conv.p (.cons Conv.p .nil)))) (LO.st rfl rfl rfl (LOp.move rfl rfl) (LO.st rfl rfl rfl (LOp.convert (k' := .u64) rfl rfl (by kernel_rfl)) (LO.st rfl rfl rfl (LOp.call rfl rfl rfl (by kernel_rfl) (LC.pure (c108 (h := (step c.Seed 4294967296)) (x := (IntKind.u64.wrap (slot)))) (.cons Conv.p (.cons Conv.p .nil)))) (LO.st rfl rfl rfl (LOp.fieldAddr rfl rfl ft55_0) (LO.st rfl rfl rfl (LOp.load rfl rfl rfl vt49 rfl rfl) ?_)))))))))))
    refine LO.st rfl rfl rfl (LOp.lenM rfl rfl (by kernel_rfl)) (LO.st rfl rfl rfl (LOp.convert (k' := .u64) rfl rfl (by kernel_rfl)) ?_)
    obtain ⟨q1, hr⟩ := grd_get hr
    refine LO.st rfl rfl rfl (LOp.rem rfl rfl rfl (of_decide_eq_true q1)) (LO.st rfl rfl rfl (LOp.convert (k' := .i64) rfl rfl (by kernel_rfl)) (LO.st rfl rfl rfl (LOp.assign rfl rfl) (LO.nil (thn_n (LW.ret ?_)))))
    obtain rfl := Option.some.inj hr
    refine finP_ret (.one (.tmp rfl)) ?_
    exact Conv.p
def F74 (c : Cf) (slot : Int) (who : Int) : Option Bool :=
  (F65 c slot).bind fun v1 =>
  (F119 v1 who).bind fun v2 =>
  some v2
set_option maxRecDepth 100000 in
theorem c74 {c : Cf} {slot : Int} {who : Int} {r_ : Bool} (hr : F74 c slot who = some r_) : LPure Tryz.prog 24 [cfP c, .int .i64 slot, .int .i64 who] [.bool r_] := by
  refine LPure.start Tryz.func24 rfl rfl rfl rfl ?_
  unfold F74 at hr
  refine LW.seq (LW.region (LOps.st rfl rfl rfl (LOp.box rfl rfl rfl rfl rfl) (LOps.st rfl rfl rfl (LOp.assign rfl rfl) (LOps.nil (thn_n (LW.seq (LW.region (LOps.st rfl rfl rfl (LOp.load rfl rfl rfl vt55 rfl rfl) (LOps.st rfl rfl rfl (LOp.move rfl rfl) ?_)))))))))
  obtain ⟨v1, h_v1, hr⟩ := bind_get hr
  refine LOps.st rfl rfl rfl (LOp.call rfl rfl rfl (by kernel_rfl) (LC.pure (c65 h_v1) (.cons Conv.p (.cons Conv.p .nil)))) (LOps.st rfl rfl rfl (LOp.move rfl rfl) ?_)
  obtain ⟨v2, h_v2, hr⟩ := bind_get hr
  refine LOps.st rfl rfl rfl (LOp.call rfl rfl rfl (by kernel_rfl) (LC.pure (c119 h_v2) (.cons Conv.p (.cons Conv.p .nil)))) (LOps.st rfl rfl rfl (LOp.assign rfl rfl) (LOps.nil (thn_n (LW.ret ?_))))
  obtain rfl := Option.some.inj hr
  refine finP_ret (.one (.tmp rfl)) ?_
  exact Conv.p
end Go.Mg
