/- The example of the laws of cursors. Conditions: none. -/
import Derived.Test.YtlhocfhoocmfiaaCP3
namespace Go.Mg
open Go.Proofs

def bkA : Bk := ⟨1, 0, 0, 0, 0⟩
def bkB : Bk := ⟨1, 0, 0, 0, 1⟩
def cuSame (a b : Cu) : Bool := a.id.1 == b.id.1 && (a.id.2 == b.id.2 && (a.s == b.s && (a.r == b.r && true)))
theorem awakeC : cuSame (moveOf ⟨nm bkA, 1, 0⟩ [bkA, bkB] (nm bkB) (0, 0) false 5) ⟨(0, 0), 5, 1⟩ = true := by kernel_rfl
theorem awakeD : cuSame (moveOf ⟨(0, 0), 0, 0⟩ [bkA, bkB] (nm bkB) (nm bkB) true 5) ⟨nm bkB, 5, 0⟩ = true := by kernel_rfl

set_option maxRecDepth 100000 in
theorem c36 : LPure Try.prog 36 [] [.bool true] := by
  refine LPure.start Try.func36 rfl rfl rfl rfl ?_
  refine LW.seq ?_
  refine LW.region ?_
  refine LOps.st rfl rfl rfl (LOp.assign rfl rfl) ?_
  refine LOps.nil ?_
  refine thn_n ?_
  refine LW.seq ?_
  refine LW.region ?_
  refine LOps.st rfl rfl rfl (LOp.build rfl bt42 rfl rfl rfl) ?_
  refine LOps.st rfl rfl rfl (LOp.alloc rfl zt42 rfl rfl) ?_
  refine LOps.st rfl rfl rfl (LOp.store rfl rfl rfl rfl vt42 rfl rfl rfl rfl) ?_
  refine LOps.nil ?_
  refine thn_n ?_
  refine LW.seq ?_
  refine LW.region ?_
  refine LOps.st rfl rfl rfl (LOp.build rfl bt42 rfl rfl rfl) ?_
  refine LOps.st rfl rfl rfl (LOp.alloc rfl zt42 rfl rfl) ?_
  refine LOps.st rfl rfl rfl (LOp.store rfl rfl rfl rfl vt42 rfl rfl rfl rfl) ?_
  refine LOps.nil ?_
  refine thn_n ?_
  refine LW.seq ?_
  refine LW.region ?_
  refine LOps.st rfl rfl rfl (LOp.load rfl rfl rfl vt42 rfl rfl) ?_
  refine LOps.st rfl rfl rfl (LOp.load rfl rfl rfl vt42 rfl rfl) ?_
  refine LOps.st rfl rfl rfl (LOp.buildSlice rfl st27 rfl rfl rfl rfl rfl) ?_
  refine LOps.st rfl rfl rfl (LOp.assign rfl rfl) ?_
  refine LOps.nil ?_
  refine thn_n ?_
  refine LW.seq ?_
  refine LW.ent (Ent.slot rfl) ?_
  refine LW.drawW (by kernel_rfl) (by kernel_rfl) ?_
  refine LF.st rfl rfl rfl (LAt.load rfl rfl rfl vt42 rfl rfl) rfl ?_
  refine LF.st (F := []) (s := none) rfl rfl rfl (fun H _ => LOp.call rfl rfl rfl (by kernel_rfl) (LC.pure (c50 (b := bkA)) (.cons Conv.p .nil))) rfl ?_
  refine LF.st (F := []) (s := none) rfl rfl rfl (fun H _ => LOp.build rfl bt26 rfl rfl rfl) rfl ?_
  refine LF.st (F := []) (s := none) rfl rfl rfl (fun H _ => LOp.move rfl rfl) rfl ?_
  refine LF.st rfl rfl rfl (LAt.load rfl rfl rfl vt42 rfl rfl) rfl ?_
  refine LF.st (F := []) (s := none) rfl rfl rfl (fun H _ => LOp.call rfl rfl rfl (by kernel_rfl) (LC.pure (c50 (b := bkB)) (.cons Conv.p .nil))) rfl ?_
  refine LF.st (F := []) (s := none) rfl rfl rfl (fun H _ => LOp.build rfl bt24 rfl rfl rfl) rfl ?_
  refine LF.st (F := []) (s := none) rfl rfl rfl (fun H _ => LOp.call rfl rfl rfl (by kernel_rfl) (LC.pure (c37 (c := ⟨nm bkA, 1, 0⟩) (l := [bkA, bkB]) (head := nm bkB) (found := (0, 0)) (is := false) (slot := 5) (by decide)) (.cons Conv.p (.cons Conv.p (.cons Conv.p (.cons Conv.p (.cons Conv.p (.cons Conv.p .nil)))))))) rfl ?_
  refine LF.st rfl rfl rfl (LAt.alloc rfl zt26 (id := 2) rfl) rfl ?_
  refine LF.st rfl rfl rfl (LAt.store rfl rfl rfl rfl vt26 rfl rfl rfl) rfl ?_
  refine LF.nil ⟨by kernel_rfl, ?_⟩
  refine thn_n ?_
  refine LW.seq ?_
  refine LW.ent (Ent.slot rfl) ?_
  refine LW.drawW (by kernel_rfl) (by kernel_rfl) ?_
  refine LF.st (F := []) (s := none) rfl rfl rfl (fun H _ => LOp.build rfl bt26 rfl rfl rfl) rfl ?_
  refine LF.st (F := []) (s := none) rfl rfl rfl (fun H _ => LOp.move rfl rfl) rfl ?_
  refine LF.st rfl rfl rfl (LAt.load rfl rfl rfl vt42 rfl rfl) rfl ?_
  refine LF.st (F := []) (s := none) rfl rfl rfl (fun H _ => LOp.call rfl rfl rfl (by kernel_rfl) (LC.pure (c50 (b := bkB)) (.cons Conv.p .nil))) rfl ?_
  refine LF.st rfl rfl rfl (LAt.load rfl rfl rfl vt42 rfl rfl) rfl ?_
  refine LF.st (F := []) (s := none) rfl rfl rfl (fun H _ => LOp.call rfl rfl rfl (by kernel_rfl) (LC.pure (c50 (b := bkB)) (.cons Conv.p .nil))) rfl ?_
  refine LF.st (F := []) (s := none) rfl rfl rfl (fun H _ => LOp.call rfl rfl rfl (by kernel_rfl) (LC.pure (c37 (c := ⟨(0, 0), 0, 0⟩) (l := [bkA, bkB]) (head := nm bkB) (found := nm bkB) (is := true) (slot := 5) (by decide)) (.cons Conv.p (.cons Conv.p (.cons Conv.p (.cons Conv.p (.cons Conv.p (.cons Conv.p .nil)))))))) rfl ?_
  refine LF.st rfl rfl rfl (LAt.alloc rfl zt26 (id := 3) rfl) rfl ?_
  refine LF.st rfl rfl rfl (LAt.store rfl rfl rfl rfl vt26 rfl rfl rfl) rfl ?_
  refine LF.nil ⟨by kernel_rfl, ?_⟩
  refine thn_n ?_
  refine LW.seq ?_
  refine LW.draw (by kernel_rfl) (by kernel_rfl) ?_
  refine LO.st rfl rfl rfl (LOp.load rfl rfl rfl vt26 rfl rfl) ?_
  refine LO.st rfl rfl rfl (LOp.build rfl bt26 rfl rfl rfl) ?_
  refine LO.st rfl rfl rfl (LOp.eqlAgg rfl rfl rfl rfl rfl eqt26) ?_
  refine LO.st rfl rfl rfl (LOp.move rfl rfl) ?_
  refine LO.cases 29 rfl (fun g1 => ?_) (fun g1 => ?_)
  · -- g1 is True
    refine LO.gd rfl rfl rfl (gd g1 rfl) rfl (LOp.load rfl rfl rfl vt26 rfl rfl) ?_
    refine LO.gd rfl rfl rfl (gd g1 rfl) rfl (LOp.load rfl rfl rfl vt42 rfl rfl) ?_
    refine LO.gd rfl rfl rfl (gd g1 rfl) rfl (LOp.call rfl rfl rfl (by kernel_rfl) (LC.pure (c50 (b := bkB)) (.cons Conv.p .nil))) ?_
    refine LO.gd rfl rfl rfl (gd g1 rfl) rfl (LOp.build rfl bt26 rfl rfl rfl) ?_
    refine LO.gd rfl rfl rfl (gd g1 rfl) rfl (LOp.eqlAgg rfl rfl rfl rfl rfl eqt26) ?_
    refine LO.st rfl rfl rfl (LOp.pickT rfl (gdl g1 rfl) rfl) ?_
    refine LO.st rfl rfl rfl (LOp.assign rfl rfl) ?_
    refine LO.nil ?_
    refine thn_n ?_
    refine LW.ret ?_
    refine finP_ret (.one (.tmp rfl)) ?_
    exact Conv.pe (congrArg PV.bool awakeD)
  · -- g1 is False
    refine LO.sk rfl rfl rfl (gd g1 rfl) rfl rfl ?_
    refine LO.sk rfl rfl rfl (gd g1 rfl) rfl rfl ?_
    refine LO.sk rfl rfl rfl (gd g1 rfl) rfl rfl ?_
    refine LO.sk rfl rfl rfl (gd g1 rfl) rfl rfl ?_
    refine LO.sk rfl rfl rfl (gd g1 rfl) rfl rfl ?_
    refine LO.st rfl rfl rfl (LOp.pickF rfl (gdl g1 rfl) rfl) ?_
    refine LO.st rfl rfl rfl (LOp.assign rfl rfl) ?_
    refine LO.nil ?_
    refine thn_n ?_
    refine LW.ret ?_
    refine finP_ret (.one (.tmp rfl)) ?_
    exact absurd (g1.symm.trans awakeC) (by decide)

/-- Equal cursors, as the program compares them. -/
theorem curEq {c d : Cu} {r : Bool} (h : eqCells [.int .u64 c.id.1, .int .u64 c.id.2, .int .i64 c.s, .int .i64 c.r] [.int .u64 d.id.1, .int .u64 d.id.2, .int .i64 d.s, .int .i64 d.r] = some r) (e : c = d) : r = true := by
  subst e
  simp [eqCells] at h
  exact h

set_option maxRecDepth 100000 in
theorem c4 {c : Cu} {l : List Bk} {head found : ID} {is : Bool} {slot : Int} : LPure Try.prog 4 [curP c, .slice 5 (l.map blkP), idP head, idP found, .bool is, .int .i64 slot] [.bool true] := by
  refine LPure.start Try.func4 rfl rfl rfl rfl ?_
  refine LW.seq ?_
  refine LW.region ?_
  refine LOps.st rfl rfl rfl (LOp.box rfl rfl rfl rfl rfl) ?_
  refine LOps.st rfl rfl rfl (LOp.box rfl rfl rfl rfl rfl) ?_
  refine LOps.st rfl rfl rfl (LOp.box rfl rfl rfl rfl rfl) ?_
  refine LOps.st rfl rfl rfl (LOp.assign rfl rfl) ?_
  refine LOps.nil ?_
  refine thn_n ?_
  refine LW.seq ?_
  refine LW.region ?_
  refine LOps.st rfl rfl rfl (LOp.call rfl rfl rfl (by kernel_rfl) (LC.pure c36 .nil)) ?_
  refine LOps.st rfl rfl rfl (LOp.assign rfl rfl) ?_
  refine LOps.nil ?_
  refine thn_n ?_
  refine LW.seq ?_
  refine LW.seq ?_
  refine LW.region ?_
  refine LOps.st rfl rfl rfl (LOp.move rfl rfl) ?_
  refine LOps.st rfl rfl rfl (LOp.not rfl rfl) ?_
  refine LOps.st rfl rfl rfl (LOp.move rfl rfl) ?_
  refine LOps.gd rfl rfl rfl rfl rfl (LOp.move rfl rfl) ?_
  refine LOps.gd rfl rfl rfl rfl rfl (LOp.len rfl rfl (by kernel_rfl)) ?_
  refine LOps.gd rfl rfl rfl rfl rfl (LOp.bin rfl rfl rfl rfl) ?_
  refine LOps.st rfl rfl rfl (LOp.pickF rfl rfl rfl) ?_
  refine LOps.st rfl rfl rfl (LOp.move rfl rfl) ?_
  refine LOps.cases 23 rfl (fun g1 => ?_) (fun g1 => ?_)
  · -- g1 is True
    refine LOps.sk rfl rfl rfl (gd g1 rfl) rfl rfl ?_
    refine LOps.sk rfl rfl rfl (gd g1 rfl) rfl rfl ?_
    refine LOps.sk rfl rfl rfl (gd g1 rfl) rfl rfl ?_
    refine LOps.sk rfl rfl rfl (gd g1 rfl) rfl rfl ?_
    refine LOps.sk rfl rfl rfl (gd g1 rfl) rfl rfl ?_
    refine LOps.st rfl rfl rfl (LOp.pickT rfl (gdl g1 rfl) rfl) ?_
    refine LOps.nil ?_
    refine thn_n ?_
    refine LW.condT rfl ?_
    refine LW.seq ?_
    refine LW.region ?_
    refine LOps.st rfl rfl rfl (LOp.move rfl rfl) ?_
    refine LOps.st rfl rfl rfl (LOp.assign rfl rfl) ?_
    refine LOps.nil ?_
    refine thn_n ?_
    refine LW.ret ?_
    refine thn_r ?_
    refine finP_ret (.one (.tmp rfl)) ?_
    exact Conv.p
  · -- g1 is False
    refine LOps.gd rfl rfl rfl (gd g1 rfl) rfl (LOp.move rfl rfl) ?_
    refine LOps.gd rfl rfl rfl (gd g1 rfl) rfl (LOp.load rfl rfl rfl vt24 rfl rfl) ?_
    refine LOps.gd rfl rfl rfl (gd g1 rfl) rfl (LOp.call rfl rfl rfl (by kernel_rfl) (LC.pure (c39 (len40 rfl g1)) (.cons Conv.p (.cons Conv.p .nil)))) ?_
    refine LOps.gd rfl rfl rfl (gd g1 rfl) rfl (LOp.len rfl rfl (by kernel_rfl)) ?_
    refine LOps.gd rfl rfl rfl (gd g1 rfl) rfl (LOp.bin rfl rfl rfl rfl) ?_
    refine LOps.st rfl rfl rfl (LOp.pickF rfl (gdl g1 rfl) rfl) ?_
    refine LOps.nil ?_
    refine thn_n ?_
    refine LW.cond rfl (fun g2 => ?_) (fun g2 => ?_)
    · -- g2 is True
      refine LW.seq ?_
      refine LW.region ?_
      refine LOps.st rfl rfl rfl (LOp.move rfl rfl) ?_
      refine LOps.st rfl rfl rfl (LOp.assign rfl rfl) ?_
      refine LOps.nil ?_
      refine thn_n ?_
      refine LW.ret ?_
      refine thn_r ?_
      refine finP_ret (.one (.tmp rfl)) ?_
      exact Conv.p
    · -- g2 is False
      refine LW.skip ?_
      refine thn_n ?_
      refine LW.seq ?_
      refine LW.region ?_
      refine LOps.st rfl rfl rfl (LOp.load rfl rfl rfl vt26 rfl rfl) ?_
      refine LOps.st rfl rfl rfl (LOp.move rfl rfl) ?_
      refine LOps.st rfl rfl rfl (LOp.load rfl rfl rfl vt24 rfl rfl) ?_
      refine LOps.st rfl rfl rfl (LOp.load rfl rfl rfl vt24 rfl rfl) ?_
      refine LOps.st rfl rfl rfl (LOp.move rfl rfl) ?_
      refine LOps.st rfl rfl rfl (LOp.move rfl rfl) ?_
      refine LOps.st rfl rfl rfl (LOp.call rfl rfl rfl (by kernel_rfl) (LC.pure (c37 (len40 rfl g1)) (.cons Conv.p (.cons Conv.p (.cons Conv.p (.cons Conv.p (.cons Conv.p (.cons Conv.p .nil)))))))) ?_
      refine LOps.st rfl rfl rfl (LOp.alloc rfl zt26 rfl rfl) ?_
      refine LOps.st rfl rfl rfl (LOp.store rfl rfl rfl rfl vt26 rfl rfl rfl rfl) ?_
      refine LOps.nil ?_
      refine thn_n ?_
      refine LW.seq ?_
      refine LW.draw (by kernel_rfl) (by kernel_rfl) ?_
      refine LO.st rfl rfl rfl (LOp.load rfl rfl rfl vt26 rfl rfl) ?_
      refine LO.st rfl rfl rfl (LOp.move rfl rfl) ?_
      refine LO.st rfl rfl rfl (LOp.load rfl rfl rfl vt24 rfl rfl) ?_
      refine LO.st rfl rfl rfl (LOp.load rfl rfl rfl vt24 rfl rfl) ?_
      refine LO.st rfl rfl rfl (LOp.move rfl rfl) ?_
      refine LO.st rfl rfl rfl (LOp.move rfl rfl) ?_
      refine LO.st rfl rfl rfl (LOp.call rfl rfl rfl (by kernel_rfl) (LC.pure (c37 (len40 rfl g1)) (.cons Conv.p (.cons Conv.p (.cons Conv.p (.cons Conv.p (.cons Conv.p (.cons Conv.p .nil)))))))) ?_
      refine LO.st rfl rfl rfl (LOp.load rfl rfl rfl vt26 rfl rfl) ?_
      refine LO.st rfl rfl rfl (LOp.eqlAgg rfl rfl rfl rfl rfl eqt26) ?_
      refine LO.st rfl rfl rfl (LOp.assign rfl rfl) ?_
      refine LO.nil ?_
      refine thn_n ?_
      refine LW.ret ?_
      refine finP_ret (.one (.tmp rfl)) ?_
      have hne : chainOf l head ≠ [] := by intro e; rw [e] at g2; simp at g2
      exact Conv.pe (congrArg PV.bool (curEq rfl (move_twice (len40 rfl g1) hne)))

set_option maxRecDepth 100000 in
theorem c5 {c : Cu} {l : List Bk} {head found : ID} {is : Bool} {slot : Int} : LPure Try.prog 5 [curP c, .slice 5 (l.map blkP), idP head, idP found, .bool is, .int .i64 slot] [.bool true] := by
  refine LPure.start Try.func5 rfl rfl rfl rfl ?_
  refine LW.seq ?_
  refine LW.region ?_
  refine LOps.st rfl rfl rfl (LOp.box rfl rfl rfl rfl rfl) ?_
  refine LOps.st rfl rfl rfl (LOp.box rfl rfl rfl rfl rfl) ?_
  refine LOps.st rfl rfl rfl (LOp.box rfl rfl rfl rfl rfl) ?_
  refine LOps.st rfl rfl rfl (LOp.assign rfl rfl) ?_
  refine LOps.nil ?_
  refine thn_n ?_
  refine LW.seq ?_
  refine LW.region ?_
  refine LOps.st rfl rfl rfl (LOp.call rfl rfl rfl (by kernel_rfl) (LC.pure c36 .nil)) ?_
  refine LOps.st rfl rfl rfl (LOp.assign rfl rfl) ?_
  refine LOps.nil ?_
  refine thn_n ?_
  refine LW.seq ?_
  refine LW.seq ?_
  refine LW.region ?_
  refine LOps.st rfl rfl rfl (LOp.move rfl rfl) ?_
  refine LOps.st rfl rfl rfl (LOp.not rfl rfl) ?_
  refine LOps.st rfl rfl rfl (LOp.move rfl rfl) ?_
  refine LOps.gd rfl rfl rfl rfl rfl (LOp.move rfl rfl) ?_
  refine LOps.gd rfl rfl rfl rfl rfl (LOp.len rfl rfl (by kernel_rfl)) ?_
  refine LOps.gd rfl rfl rfl rfl rfl (LOp.bin rfl rfl rfl rfl) ?_
  refine LOps.st rfl rfl rfl (LOp.pickF rfl rfl rfl) ?_
  refine LOps.st rfl rfl rfl (LOp.move rfl rfl) ?_
  refine LOps.cases 22 rfl (fun g1 => ?_) (fun g1 => ?_)
  · -- g1 is True
    refine LOps.sk rfl rfl rfl (gd g1 rfl) rfl rfl ?_
    refine LOps.sk rfl rfl rfl (gd g1 rfl) rfl rfl ?_
    refine LOps.sk rfl rfl rfl (gd g1 rfl) rfl rfl ?_
    refine LOps.sk rfl rfl rfl (gd g1 rfl) rfl rfl ?_
    refine LOps.sk rfl rfl rfl (gd g1 rfl) rfl rfl ?_
    refine LOps.st rfl rfl rfl (LOp.pickT rfl (gdl g1 rfl) rfl) ?_
    refine LOps.nil ?_
    refine thn_n ?_
    refine LW.condT rfl ?_
    refine LW.seq ?_
    refine LW.region ?_
    refine LOps.st rfl rfl rfl (LOp.move rfl rfl) ?_
    refine LOps.st rfl rfl rfl (LOp.assign rfl rfl) ?_
    refine LOps.nil ?_
    refine thn_n ?_
    refine LW.ret ?_
    refine thn_r ?_
    refine finP_ret (.one (.tmp rfl)) ?_
    exact Conv.p
  · -- g1 is False
    refine LOps.gd rfl rfl rfl (gd g1 rfl) rfl (LOp.move rfl rfl) ?_
    refine LOps.gd rfl rfl rfl (gd g1 rfl) rfl (LOp.load rfl rfl rfl vt24 rfl rfl) ?_
    refine LOps.gd rfl rfl rfl (gd g1 rfl) rfl (LOp.call rfl rfl rfl (by kernel_rfl) (LC.pure (c39 (len40 rfl g1)) (.cons Conv.p (.cons Conv.p .nil)))) ?_
    refine LOps.gd rfl rfl rfl (gd g1 rfl) rfl (LOp.len rfl rfl (by kernel_rfl)) ?_
    refine LOps.gd rfl rfl rfl (gd g1 rfl) rfl (LOp.bin rfl rfl rfl rfl) ?_
    refine LOps.st rfl rfl rfl (LOp.pickF rfl (gdl g1 rfl) rfl) ?_
    refine LOps.nil ?_
    refine thn_n ?_
    refine LW.cond rfl (fun g2 => ?_) (fun g2 => ?_)
    · -- g2 is True
      refine LW.seq ?_
      refine LW.region ?_
      refine LOps.st rfl rfl rfl (LOp.move rfl rfl) ?_
      refine LOps.st rfl rfl rfl (LOp.assign rfl rfl) ?_
      refine LOps.nil ?_
      refine thn_n ?_
      refine LW.ret ?_
      refine thn_r ?_
      refine finP_ret (.one (.tmp rfl)) ?_
      exact Conv.p
    · -- g2 is False
      refine LW.skip ?_
      refine thn_n ?_
      refine LW.seq ?_
      refine LW.draw (by kernel_rfl) (by kernel_rfl) ?_
      refine LO.st rfl rfl rfl (LOp.load rfl rfl rfl vt26 rfl rfl) ?_
      refine LO.st rfl rfl rfl (LOp.move rfl rfl) ?_
      refine LO.st rfl rfl rfl (LOp.load rfl rfl rfl vt24 rfl rfl) ?_
      refine LO.st rfl rfl rfl (LOp.load rfl rfl rfl vt24 rfl rfl) ?_
      refine LO.st rfl rfl rfl (LOp.move rfl rfl) ?_
      refine LO.st rfl rfl rfl (LOp.move rfl rfl) ?_
      refine LO.st rfl rfl rfl (LOp.call rfl rfl rfl (by kernel_rfl) (LC.pure (c37 (len40 rfl g1)) (.cons Conv.p (.cons Conv.p (.cons Conv.p (.cons Conv.p (.cons Conv.p (.cons Conv.p .nil)))))))) ?_
      refine LO.st rfl rfl rfl (LOp.move rfl rfl) ?_
      refine LO.st rfl rfl rfl (LOp.fieldAddr rfl rfl ft26_2) ?_
      refine LO.st rfl rfl rfl (LOp.load rfl rfl rfl vt3 rfl rfl) ?_
      refine LO.st rfl rfl rfl (LOp.bin rfl rfl rfl rfl) ?_
      refine LO.st rfl rfl rfl (LOp.build rfl bt26 rfl rfl rfl) ?_
      refine LO.st rfl rfl rfl (LOp.eqlAgg rfl rfl rfl rfl rfl eqt26) ?_
      refine LO.st rfl rfl rfl (LOp.assign rfl rfl) ?_
      refine LO.nil ?_
      refine thn_n ?_
      refine LW.ret ?_
      refine finP_ret (.one (.tmp rfl)) ?_
      have he : chainOf l head = [] := by simpa using g2
      exact Conv.pe (congrArg PV.bool (curEq rfl (move_lost he)))

end Go.Mg
