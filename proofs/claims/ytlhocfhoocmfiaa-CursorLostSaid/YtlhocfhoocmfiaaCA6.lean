/- cursor.Move. Conditions: none. -/
import Derived.Test.YtlhocfhoocmfiaaCA5
namespace Go.Mg
open Go.Proofs

/-- A cursor. -/
structure Cu where
  id : ID
  s : Int
  r : Int
def curP (c : Cu) : PV := .agg [.int .u64 c.id.1, .int .u64 c.id.2, .int .i64 c.s, .int .i64 c.r]

/-- What cursor.Move answers. -/
def moveOf (c : Cu) (l : List Bk) (head found : ID) (is : Bool) (slot : Int) : Cu :=
  let c' : Cu := if indexOf (chainOf l head) c.id < 0 then ⟨(0, 0), slot, IntKind.i64.wrap (c.r + 1)⟩ else c
  let at_ : Int := if indexOf (chainOf l head) c.id < 0 then IntKind.i64.wrap ((chainOf l head).length - 1) else indexOf (chainOf l head) c.id
  if is = true ∧ indexOf (chainOf l head) found ≥ 0 ∧ indexOf (chainOf l head) found < at_ then ⟨found, slot, c'.r⟩ else c'

set_option maxRecDepth 100000 in
theorem c37 {c : Cu} {l : List Bk} {head found : ID} {is : Bool} {slot : Int} (hl : l.length ≤ 1000) : LPure Try.prog 37 [curP c, .slice 5 (l.map blkP), idP head, idP found, .bool is, .int .i64 slot] [curP (moveOf c l head found is slot)] := by
  refine LPure.start Try.func37 rfl rfl rfl rfl ?_
  refine LW.seq ?_
  refine LW.region ?_
  refine LOps.st rfl rfl rfl (LOp.box rfl rfl rfl rfl rfl) ?_
  refine LOps.st rfl rfl rfl (LOp.box rfl rfl rfl rfl rfl) ?_
  refine LOps.st rfl rfl rfl (LOp.box rfl rfl rfl rfl rfl) ?_
  refine LOps.st rfl rfl rfl (LOp.alloc rfl zt26 rfl rfl) ?_
  refine LOps.nil ?_
  refine thn_n ?_
  refine LW.seq ?_
  refine LW.region ?_
  refine LOps.st rfl rfl rfl (LOp.move rfl rfl) ?_
  refine LOps.st rfl rfl rfl (LOp.load rfl rfl rfl vt24 rfl rfl) ?_
  refine LOps.st rfl rfl rfl (LOp.call rfl rfl rfl (by kernel_rfl) (LC.pure (c39 hl) (.cons Conv.p (.cons Conv.p .nil)))) ?_
  refine LOps.st rfl rfl rfl (LOp.assign rfl rfl) ?_
  refine LOps.nil ?_
  refine thn_n ?_
  refine LW.seq ?_
  refine LW.region ?_
  refine LOps.st rfl rfl rfl (LOp.move rfl rfl) ?_
  refine LOps.st rfl rfl rfl (LOp.fieldAddr rfl rfl ft26_0) ?_
  refine LOps.st rfl rfl rfl (LOp.load rfl rfl rfl vt24 rfl rfl) ?_
  refine LOps.st rfl rfl rfl (LOp.call rfl rfl rfl (by kernel_rfl) (LC.pure c93 (.cons Conv.p (.cons Conv.p .nil)))) ?_
  refine LOps.st rfl rfl rfl (LOp.assign rfl rfl) ?_
  refine LOps.nil ?_
  refine thn_n ?_
  refine LW.seq ?_
  refine LW.block ?_
  refine LW.seq ?_
  refine LW.block ?_
  refine LW.seq ?_
  refine LW.block ?_
  refine LW.seq ?_
  refine LW.seq ?_
  refine LW.region ?_
  refine LOps.st rfl rfl rfl (LOp.move rfl rfl) ?_
  refine LOps.st rfl rfl rfl (LOp.bin rfl rfl rfl rfl) ?_
  refine LOps.st rfl rfl rfl (LOp.assign rfl rfl) ?_
  refine LOps.nil ?_
  refine thn_n ?_
  refine LW.cond rfl (fun g1 => ?_) (fun g1 => ?_)
  · -- g1 is True
    refine LW.exit ?_
    refine thn_e ?_
    refine inBlk_self ?_
    refine thn_n ?_
    refine LW.seq ?_
    refine LW.region ?_
    refine LOps.st rfl rfl rfl (LOp.move rfl rfl) ?_
    refine LOps.st rfl rfl rfl (LOp.fieldAddr rfl rfl ft26_2) ?_
    refine LOps.st rfl rfl rfl (LOp.load rfl rfl rfl vt3 rfl rfl) ?_
    refine LOps.st rfl rfl rfl (LOp.bin rfl rfl rfl rfl) ?_
    refine LOps.st rfl rfl rfl (LOp.build rfl bt26 rfl rfl rfl) ?_
    refine LOps.st rfl rfl rfl (LOp.store rfl rfl rfl rfl vt26 rfl rfl rfl rfl) ?_
    refine LOps.nil ?_
    refine thn_n ?_
    refine LW.region ?_
    refine LOps.st rfl rfl rfl (LOp.move rfl rfl) ?_
    refine LOps.st rfl rfl rfl (LOp.len rfl rfl (by kernel_rfl)) ?_
    refine LOps.st rfl rfl rfl (LOp.bin rfl rfl rfl rfl) ?_
    refine LOps.st rfl rfl rfl (LOp.assign rfl rfl) ?_
    refine LOps.nil ?_
    refine inBlk_n ?_
    refine thn_n ?_
    refine LW.seq ?_
    refine LW.seq ?_
    refine LW.region ?_
    refine LOps.st rfl rfl rfl (LOp.move rfl rfl) ?_
    refine LOps.st rfl rfl rfl (LOp.load rfl rfl rfl vt24 rfl rfl) ?_
    refine LOps.st rfl rfl rfl (LOp.call rfl rfl rfl (by kernel_rfl) (LC.pure c93 (.cons Conv.p (.cons Conv.p .nil)))) ?_
    refine LOps.st rfl rfl rfl (LOp.assign rfl rfl) ?_
    refine LOps.nil ?_
    refine thn_n ?_
    refine LW.seq ?_
    refine LW.region ?_
    refine LOps.st rfl rfl rfl (LOp.move rfl rfl) ?_
    refine LOps.st rfl rfl rfl (LOp.move rfl rfl) ?_
    refine LOps.cases 38 rfl (fun g2 => ?_) (fun g2 => ?_)
    · -- g2 is True
      refine LOps.gd rfl rfl rfl (gd g2 rfl) rfl (LOp.move rfl rfl) ?_
      refine LOps.gd rfl rfl rfl (gd g2 rfl) rfl (LOp.bin rfl rfl rfl rfl) ?_
      refine LOps.st rfl rfl rfl (LOp.pickT rfl (gdl g2 rfl) rfl) ?_
      refine LOps.st rfl rfl rfl (LOp.move rfl rfl) ?_
      refine LOps.cases 42 rfl (fun g3 => ?_) (fun g3 => ?_)
      · -- g3 is True
        refine LOps.gd rfl rfl rfl (gd g3 rfl) rfl (LOp.move rfl rfl) ?_
        refine LOps.gd rfl rfl rfl (gd g3 rfl) rfl (LOp.move rfl rfl) ?_
        refine LOps.gd rfl rfl rfl (gd g3 rfl) rfl (LOp.bin rfl rfl rfl rfl) ?_
        refine LOps.st rfl rfl rfl (LOp.pickT rfl (gdl g3 rfl) rfl) ?_
        refine LOps.nil ?_
        refine thn_n ?_
        refine LW.cond rfl (fun g4 => ?_) (fun g4 => ?_)
        · -- g4 is True
          refine LW.region ?_
          refine LOps.st rfl rfl rfl (LOp.load rfl rfl rfl vt24 rfl rfl) ?_
          refine LOps.st rfl rfl rfl (LOp.move rfl rfl) ?_
          refine LOps.st rfl rfl rfl (LOp.fieldAddr rfl rfl ft26_0) ?_
          refine LOps.st rfl rfl rfl (LOp.store rfl rfl rfl rfl vt24 rfl rfl rfl rfl) ?_
          refine LOps.st rfl rfl rfl (LOp.fieldAddr rfl rfl ft26_1) ?_
          refine LOps.st rfl rfl rfl (LOp.store rfl rfl rfl rfl vt3 rfl rfl rfl rfl) ?_
          refine LOps.nil ?_
          refine thn_n ?_
          refine LW.exit ?_
          refine inBlk_self ?_
          refine thn_n ?_
          refine LW.seq ?_
          refine LW.region ?_
          refine LOps.st rfl rfl rfl (LOp.load rfl rfl rfl vt26 rfl rfl) ?_
          refine LOps.st rfl rfl rfl (LOp.store rfl rfl rfl rfl vt26 rfl rfl rfl rfl) ?_
          refine LOps.nil ?_
          refine thn_n ?_
          refine LW.ret ?_
          refine finP_ret (.one (.cellAgg rfl rfl (by kernel_rfl) rfl)) ?_
          refine Conv.pe ?_
          simp only [decide_eq_true_eq, decide_eq_false_iff_not, List.length_map] at g1 g2 g3 g4
          simp only [moveOf, curP]
          (repeat' split) <;> first | rfl | (exfalso; simp_all; done) | (exfalso; simp_all; omega)
        · -- g4 is False
          refine LW.skip ?_
          refine thn_n ?_
          refine LW.exit ?_
          refine inBlk_self ?_
          refine thn_n ?_
          refine LW.seq ?_
          refine LW.region ?_
          refine LOps.st rfl rfl rfl (LOp.load rfl rfl rfl vt26 rfl rfl) ?_
          refine LOps.st rfl rfl rfl (LOp.store rfl rfl rfl rfl vt26 rfl rfl rfl rfl) ?_
          refine LOps.nil ?_
          refine thn_n ?_
          refine LW.ret ?_
          refine finP_ret (.one (.cellAgg rfl rfl (by kernel_rfl) rfl)) ?_
          refine Conv.pe ?_
          simp only [decide_eq_true_eq, decide_eq_false_iff_not, List.length_map] at g1 g2 g3 g4
          simp only [moveOf, curP]
          (repeat' split) <;> first | rfl | (exfalso; simp_all; done) | (exfalso; simp_all; omega)
      · -- g3 is False
        refine LOps.sk rfl rfl rfl (gd g3 rfl) rfl rfl ?_
        refine LOps.sk rfl rfl rfl (gd g3 rfl) rfl rfl ?_
        refine LOps.sk rfl rfl rfl (gd g3 rfl) rfl rfl ?_
        refine LOps.st rfl rfl rfl (LOp.pickF rfl (gdl g3 rfl) rfl) ?_
        refine LOps.nil ?_
        refine thn_n ?_
        refine LW.condF rfl ?_
        refine LW.skip ?_
        refine thn_n ?_
        refine LW.exit ?_
        refine inBlk_self ?_
        refine thn_n ?_
        refine LW.seq ?_
        refine LW.region ?_
        refine LOps.st rfl rfl rfl (LOp.load rfl rfl rfl vt26 rfl rfl) ?_
        refine LOps.st rfl rfl rfl (LOp.store rfl rfl rfl rfl vt26 rfl rfl rfl rfl) ?_
        refine LOps.nil ?_
        refine thn_n ?_
        refine LW.ret ?_
        refine finP_ret (.one (.cellAgg rfl rfl (by kernel_rfl) rfl)) ?_
        refine Conv.pe ?_
        simp only [decide_eq_true_eq, decide_eq_false_iff_not, List.length_map] at g1 g2 g3
        simp only [moveOf, curP]
        (repeat' split) <;> first | rfl | (exfalso; simp_all; done) | (exfalso; simp_all; omega)
    · -- g2 is False
      refine LOps.sk rfl rfl rfl (gd g2 rfl) rfl rfl ?_
      refine LOps.sk rfl rfl rfl (gd g2 rfl) rfl rfl ?_
      refine LOps.st rfl rfl rfl (LOp.pickF rfl (gdl g2 rfl) rfl) ?_
      refine LOps.st rfl rfl rfl (LOp.move rfl rfl) ?_
      refine LOps.sk rfl rfl rfl rfl rfl rfl ?_
      refine LOps.sk rfl rfl rfl rfl rfl rfl ?_
      refine LOps.sk rfl rfl rfl rfl rfl rfl ?_
      refine LOps.st rfl rfl rfl (LOp.pickF rfl rfl rfl) ?_
      refine LOps.nil ?_
      refine thn_n ?_
      refine LW.condF rfl ?_
      refine LW.skip ?_
      refine thn_n ?_
      refine LW.exit ?_
      refine inBlk_self ?_
      refine thn_n ?_
      refine LW.seq ?_
      refine LW.region ?_
      refine LOps.st rfl rfl rfl (LOp.load rfl rfl rfl vt26 rfl rfl) ?_
      refine LOps.st rfl rfl rfl (LOp.store rfl rfl rfl rfl vt26 rfl rfl rfl rfl) ?_
      refine LOps.nil ?_
      refine thn_n ?_
      refine LW.ret ?_
      refine finP_ret (.one (.cellAgg rfl rfl (by kernel_rfl) rfl)) ?_
      refine Conv.pe ?_
      simp only [decide_eq_true_eq, decide_eq_false_iff_not, List.length_map] at g1 g2
      simp only [moveOf, curP]
      (repeat' split) <;> first | rfl | (exfalso; simp_all; done) | (exfalso; simp_all; omega)
  · -- g1 is False
    refine LW.skip ?_
    refine thn_n ?_
    refine LW.exit ?_
    refine inBlk_other (by decide) ?_
    refine thn_e ?_
    refine inBlk_self ?_
    refine thn_n ?_
    refine LW.seq ?_
    refine LW.seq ?_
    refine LW.region ?_
    refine LOps.st rfl rfl rfl (LOp.move rfl rfl) ?_
    refine LOps.st rfl rfl rfl (LOp.load rfl rfl rfl vt24 rfl rfl) ?_
    refine LOps.st rfl rfl rfl (LOp.call rfl rfl rfl (by kernel_rfl) (LC.pure c93 (.cons Conv.p (.cons Conv.p .nil)))) ?_
    refine LOps.st rfl rfl rfl (LOp.assign rfl rfl) ?_
    refine LOps.nil ?_
    refine thn_n ?_
    refine LW.seq ?_
    refine LW.region ?_
    refine LOps.st rfl rfl rfl (LOp.move rfl rfl) ?_
    refine LOps.st rfl rfl rfl (LOp.move rfl rfl) ?_
    refine LOps.cases 38 rfl (fun g5 => ?_) (fun g5 => ?_)
    · -- g5 is True
      refine LOps.gd rfl rfl rfl (gd g5 rfl) rfl (LOp.move rfl rfl) ?_
      refine LOps.gd rfl rfl rfl (gd g5 rfl) rfl (LOp.bin rfl rfl rfl rfl) ?_
      refine LOps.st rfl rfl rfl (LOp.pickT rfl (gdl g5 rfl) rfl) ?_
      refine LOps.st rfl rfl rfl (LOp.move rfl rfl) ?_
      refine LOps.cases 42 rfl (fun g6 => ?_) (fun g6 => ?_)
      · -- g6 is True
        refine LOps.gd rfl rfl rfl (gd g6 rfl) rfl (LOp.move rfl rfl) ?_
        refine LOps.gd rfl rfl rfl (gd g6 rfl) rfl (LOp.move rfl rfl) ?_
        refine LOps.gd rfl rfl rfl (gd g6 rfl) rfl (LOp.bin rfl rfl rfl rfl) ?_
        refine LOps.st rfl rfl rfl (LOp.pickT rfl (gdl g6 rfl) rfl) ?_
        refine LOps.nil ?_
        refine thn_n ?_
        refine LW.cond rfl (fun g7 => ?_) (fun g7 => ?_)
        · -- g7 is True
          refine LW.region ?_
          refine LOps.st rfl rfl rfl (LOp.load rfl rfl rfl vt24 rfl rfl) ?_
          refine LOps.st rfl rfl rfl (LOp.move rfl rfl) ?_
          refine LOps.st rfl rfl rfl (LOp.fieldAddr rfl rfl ft26_0) ?_
          refine LOps.st rfl rfl rfl (LOp.store rfl rfl rfl rfl vt24 rfl rfl rfl rfl) ?_
          refine LOps.st rfl rfl rfl (LOp.fieldAddr rfl rfl ft26_1) ?_
          refine LOps.st rfl rfl rfl (LOp.store rfl rfl rfl rfl vt3 rfl rfl rfl rfl) ?_
          refine LOps.nil ?_
          refine thn_n ?_
          refine LW.exit ?_
          refine inBlk_self ?_
          refine thn_n ?_
          refine LW.seq ?_
          refine LW.region ?_
          refine LOps.st rfl rfl rfl (LOp.load rfl rfl rfl vt26 rfl rfl) ?_
          refine LOps.st rfl rfl rfl (LOp.store rfl rfl rfl rfl vt26 rfl rfl rfl rfl) ?_
          refine LOps.nil ?_
          refine thn_n ?_
          refine LW.ret ?_
          refine finP_ret (.one (.cellAgg rfl rfl (by kernel_rfl) rfl)) ?_
          refine Conv.pe ?_
          simp only [decide_eq_true_eq, decide_eq_false_iff_not, List.length_map] at g1 g5 g6 g7
          simp only [moveOf, curP]
          (repeat' split) <;> first | rfl | (exfalso; simp_all; done) | (exfalso; simp_all; omega)
        · -- g7 is False
          refine LW.skip ?_
          refine thn_n ?_
          refine LW.exit ?_
          refine inBlk_self ?_
          refine thn_n ?_
          refine LW.seq ?_
          refine LW.region ?_
          refine LOps.st rfl rfl rfl (LOp.load rfl rfl rfl vt26 rfl rfl) ?_
          refine LOps.st rfl rfl rfl (LOp.store rfl rfl rfl rfl vt26 rfl rfl rfl rfl) ?_
          refine LOps.nil ?_
          refine thn_n ?_
          refine LW.ret ?_
          refine finP_ret (.one (.cellAgg rfl rfl (by kernel_rfl) rfl)) ?_
          refine Conv.pe ?_
          simp only [decide_eq_true_eq, decide_eq_false_iff_not, List.length_map] at g1 g5 g6 g7
          simp only [moveOf, curP]
          (repeat' split) <;> first | rfl | (exfalso; simp_all; done) | (exfalso; simp_all; omega)
      · -- g6 is False
        refine LOps.sk rfl rfl rfl (gd g6 rfl) rfl rfl ?_
        refine LOps.sk rfl rfl rfl (gd g6 rfl) rfl rfl ?_
        refine LOps.sk rfl rfl rfl (gd g6 rfl) rfl rfl ?_
        refine LOps.st rfl rfl rfl (LOp.pickF rfl (gdl g6 rfl) rfl) ?_
        refine LOps.nil ?_
        refine thn_n ?_
        refine LW.condF rfl ?_
        refine LW.skip ?_
        refine thn_n ?_
        refine LW.exit ?_
        refine inBlk_self ?_
        refine thn_n ?_
        refine LW.seq ?_
        refine LW.region ?_
        refine LOps.st rfl rfl rfl (LOp.load rfl rfl rfl vt26 rfl rfl) ?_
        refine LOps.st rfl rfl rfl (LOp.store rfl rfl rfl rfl vt26 rfl rfl rfl rfl) ?_
        refine LOps.nil ?_
        refine thn_n ?_
        refine LW.ret ?_
        refine finP_ret (.one (.cellAgg rfl rfl (by kernel_rfl) rfl)) ?_
        refine Conv.pe ?_
        simp only [decide_eq_true_eq, decide_eq_false_iff_not, List.length_map] at g1 g5 g6
        simp only [moveOf, curP]
        (repeat' split) <;> first | rfl | (exfalso; simp_all; done) | (exfalso; simp_all; omega)
    · -- g5 is False
      refine LOps.sk rfl rfl rfl (gd g5 rfl) rfl rfl ?_
      refine LOps.sk rfl rfl rfl (gd g5 rfl) rfl rfl ?_
      refine LOps.st rfl rfl rfl (LOp.pickF rfl (gdl g5 rfl) rfl) ?_
      refine LOps.st rfl rfl rfl (LOp.move rfl rfl) ?_
      refine LOps.sk rfl rfl rfl rfl rfl rfl ?_
      refine LOps.sk rfl rfl rfl rfl rfl rfl ?_
      refine LOps.sk rfl rfl rfl rfl rfl rfl ?_
      refine LOps.st rfl rfl rfl (LOp.pickF rfl rfl rfl) ?_
      refine LOps.nil ?_
      refine thn_n ?_
      refine LW.condF rfl ?_
      refine LW.skip ?_
      refine thn_n ?_
      refine LW.exit ?_
      refine inBlk_self ?_
      refine thn_n ?_
      refine LW.seq ?_
      refine LW.region ?_
      refine LOps.st rfl rfl rfl (LOp.load rfl rfl rfl vt26 rfl rfl) ?_
      refine LOps.st rfl rfl rfl (LOp.store rfl rfl rfl rfl vt26 rfl rfl rfl rfl) ?_
      refine LOps.nil ?_
      refine thn_n ?_
      refine LW.ret ?_
      refine finP_ret (.one (.cellAgg rfl rfl (by kernel_rfl) rfl)) ?_
      refine Conv.pe ?_
      simp only [decide_eq_true_eq, decide_eq_false_iff_not, List.length_map] at g1 g5
      simp only [moveOf, curP]
      (repeat' split) <;> first | rfl | (exfalso; simp_all; done) | (exfalso; simp_all; omega)

end Go.Mg
