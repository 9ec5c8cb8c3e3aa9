/- What the logic needs to know of each type of the program. The program's structs as plain data, and how they lie in memory. The mixing functions. mix.Of. tree.Name, slices.Index, slices.Contains. tree.places. Plain facts of trees: what 'places' tells. tree.Chain. cursor.Move. Plain facts of chains and cursors. Plain laws of cursors. tree.May, Find, Slot, Kids. The examples of the laws of trees and cursors. Plain tools for printed functions: loops by what holds at their heads. What the laws hand over, with the bounds of its numbers. Plain facts of trees: what the program's Find, Slot, Kids tell. Plain facts of a beginning of blocks. Conditions: none. -/
import Derived.Test.YtlhocfhoocmfiaaL2
import Derived.Test.YtlhocfhoocmfiaaProg
namespace Go.Mg
open Go.Proofs
section
variable {w : World}
theorem at24 : arrTy Try.prog 24 = some (2, 1, false) := by kernel_rfl
theorem at115 : arrTy Try.prog 115 = some (10, 5, true) := by kernel_rfl
theorem bt24 : buildTy Try.prog 24 = some ([LV.p (PV.int IntKind.u64 0), LV.p (PV.int IntKind.u64 0)], [(0, 1), (1, 1)]) := by kernel_rfl
theorem bt42 : buildTy Try.prog 42 = some ([LV.p (PV.int IntKind.i64 0), LV.p (PV.int IntKind.i64 0), LV.p (PV.int IntKind.u64 0), LV.p (PV.int IntKind.u64 0), LV.p (PV.int IntKind.u64 0)], [(0, 1), (1, 1), (2, 2), (4, 1)]) := by kernel_rfl
theorem bt55 : buildTy Try.prog 55 = some ([LV.zs, LV.p (PV.int IntKind.u64 0), LV.p (PV.int IntKind.i64 0), LV.p (PV.int IntKind.i64 0), LV.p (PV.int IntKind.i64 0)], [(0, 1), (1, 1), (2, 1), (3, 1), (4, 1)]) := by kernel_rfl
theorem bt75 : buildTy Try.prog 75 = some ([LV.zs, LV.zs], [(0, 1), (1, 1)]) := by kernel_rfl
theorem bt82 : buildTy Try.prog 82 = some ([LV.p (PV.int IntKind.i64 0), LV.p (PV.int IntKind.i64 0), LV.p (PV.int IntKind.u64 0), LV.p (PV.int IntKind.u64 0)], [(0, 1), (1, 1), (2, 2)]) := by kernel_rfl
theorem bt120 : buildTy Try.prog 120 = some ([LV.p (PV.int IntKind.u64 0), LV.p (PV.int IntKind.i64 0), LV.p (PV.int IntKind.u32 0), LV.p (PV.int IntKind.i32 0), LV.p (PV.int IntKind.u32 0), LV.p (PV.int IntKind.i64 0), LV.p (PV.int IntKind.u64 0), LV.p (PV.int IntKind.u32 0), LV.p (PV.int IntKind.i32 0), LV.p (PV.int IntKind.u32 0), LV.p (PV.int IntKind.i64 0), LV.p (PV.int IntKind.u64 0), LV.p (PV.int IntKind.u32 0), LV.p (PV.int IntKind.i32 0), LV.p (PV.int IntKind.u32 0), LV.p (PV.int IntKind.i64 0), LV.p (PV.int IntKind.u64 0), LV.p (PV.int IntKind.u32 0), LV.p (PV.int IntKind.i32 0), LV.p (PV.int IntKind.u32 0), LV.p (PV.int IntKind.i64 0), LV.p (PV.int IntKind.u64 0), LV.p (PV.int IntKind.u32 0), LV.p (PV.int IntKind.i32 0), LV.p (PV.int IntKind.u32 0), LV.p (PV.int IntKind.i64 0), LV.p (PV.int IntKind.u64 0), LV.p (PV.int IntKind.u32 0), LV.p (PV.int IntKind.i32 0), LV.p (PV.int IntKind.u32 0), LV.p (PV.int IntKind.i64 0), LV.p (PV.int IntKind.u64 0), LV.p (PV.int IntKind.u32 0), LV.p (PV.int IntKind.i32 0), LV.p (PV.int IntKind.u32 0), LV.p (PV.int IntKind.i64 0), LV.p (PV.int IntKind.u64 0), LV.p (PV.int IntKind.u32 0), LV.p (PV.int IntKind.i32 0), LV.p (PV.int IntKind.u32 0), LV.p (PV.int IntKind.i64 0), LV.p (PV.int IntKind.u64 0), LV.p (PV.int IntKind.u32 0), LV.p (PV.int IntKind.i32 0), LV.p (PV.int IntKind.u32 0), LV.p (PV.int IntKind.i64 0), LV.p (PV.int IntKind.u64 0), LV.p (PV.int IntKind.u32 0), LV.p (PV.int IntKind.i32 0), LV.p (PV.int IntKind.u32 0), LV.p (PV.int IntKind.i64 0), LV.p (PV.int IntKind.u64 0), LV.p (PV.int IntKind.i64 0)], [(0, 1), (1, 1), (2, 50), (52, 1)]) := by kernel_rfl
theorem bt149 : buildTy Try.prog 149 = some ([LV.zs, LV.zs, LV.nilmap, LV.nilmap, LV.p (PV.int IntKind.i64 0), LV.p (PV.bool false)], [(0, 2), (2, 1), (3, 1), (4, 1), (5, 1)]) := by kernel_rfl
theorem eqt24 : eqTy Try.prog 24 2 = true := by kernel_rfl
theorem eqt42 : eqTy Try.prog 42 5 = true := by kernel_rfl
theorem eqt82 : eqTy Try.prog 82 4 = true := by kernel_rfl
theorem ft42_0 : fieldTy Try.prog 42 0 = some (0, 1, false) := by kernel_rfl
theorem ft42_1 : fieldTy Try.prog 42 1 = some (1, 1, false) := by kernel_rfl
theorem ft42_2 : fieldTy Try.prog 42 2 = some (2, 2, true) := by kernel_rfl
theorem ft42_3 : fieldTy Try.prog 42 3 = some (4, 1, false) := by kernel_rfl
theorem ft55_0 : fieldTy Try.prog 55 0 = some (0, 1, false) := by kernel_rfl
theorem ft55_1 : fieldTy Try.prog 55 1 = some (1, 1, false) := by kernel_rfl
theorem ft55_2 : fieldTy Try.prog 55 2 = some (2, 1, false) := by kernel_rfl
theorem ft55_3 : fieldTy Try.prog 55 3 = some (3, 1, false) := by kernel_rfl
theorem ft55_4 : fieldTy Try.prog 55 4 = some (4, 1, false) := by kernel_rfl
theorem ft75_0 : fieldTy Try.prog 75 0 = some (0, 1, false) := by kernel_rfl
theorem ft75_1 : fieldTy Try.prog 75 1 = some (1, 1, false) := by kernel_rfl
theorem ft82_0 : fieldTy Try.prog 82 0 = some (0, 1, false) := by kernel_rfl
theorem ft82_1 : fieldTy Try.prog 82 1 = some (1, 1, false) := by kernel_rfl
theorem ft82_2 : fieldTy Try.prog 82 2 = some (2, 2, true) := by kernel_rfl
theorem ft106_1 : fieldTy Try.prog 106 1 = some (0, 1, false) := by kernel_rfl
theorem ft108_0 : fieldTy Try.prog 108 0 = some (0, 1, false) := by kernel_rfl
theorem ft110_1 : fieldTy Try.prog 110 1 = some (0, 2, true) := by kernel_rfl
theorem ft112_1 : fieldTy Try.prog 112 1 = some (0, 1, true) := by kernel_rfl
theorem ft112_2 : fieldTy Try.prog 112 2 = some (1, 2, true) := by kernel_rfl
theorem ft114_0 : fieldTy Try.prog 114 0 = some (0, 3, true) := by kernel_rfl
theorem ft114_1 : fieldTy Try.prog 114 1 = some (3, 1, false) := by kernel_rfl
theorem ft114_2 : fieldTy Try.prog 114 2 = some (4, 1, false) := by kernel_rfl
theorem ft118_2 : fieldTy Try.prog 118 2 = some (0, 1, false) := by kernel_rfl
theorem ft120_0 : fieldTy Try.prog 120 0 = some (0, 1, false) := by kernel_rfl
theorem ft120_1 : fieldTy Try.prog 120 1 = some (1, 1, false) := by kernel_rfl
theorem ft120_2 : fieldTy Try.prog 120 2 = some (2, 50, true) := by kernel_rfl
theorem ft120_3 : fieldTy Try.prog 120 3 = some (52, 1, true) := by kernel_rfl
theorem ft149_0 : fieldTy Try.prog 149 0 = some (0, 2, true) := by kernel_rfl
theorem ft149_1 : fieldTy Try.prog 149 1 = some (2, 1, false) := by kernel_rfl
theorem ft149_2 : fieldTy Try.prog 149 2 = some (3, 1, false) := by kernel_rfl
theorem ft149_3 : fieldTy Try.prog 149 3 = some (4, 1, false) := by kernel_rfl
theorem ft149_4 : fieldTy Try.prog 149 4 = some (5, 1, false) := by kernel_rfl
theorem mt91 : mapTy Try.prog 91 = some (24, 3, 2, true) := by kernel_rfl
theorem mt147 : mapTy Try.prog 147 = some (82, 4, 4, true) := by kernel_rfl
theorem st27 : slTy Try.prog 27 = some (5, 40) := by kernel_rfl
theorem st49 : slTy Try.prog 49 = some (1, 8) := by kernel_rfl
theorem st68 : slTy Try.prog 68 = some (4, 32) := by kernel_rfl
theorem st98 : slTy Try.prog 98 = some (1, 8) := by kernel_rfl
theorem vt3 : varTy Try.prog 3 = some (1, false) := by kernel_rfl
theorem vt4 : varTy Try.prog 4 = some (1, false) := by kernel_rfl
theorem vt21 : varTy Try.prog 21 = some (1, false) := by kernel_rfl
theorem vt22 : varTy Try.prog 22 = some (1, false) := by kernel_rfl
theorem vt24 : varTy Try.prog 24 = some (2, true) := by kernel_rfl
theorem vt27 : varTy Try.prog 27 = some (1, false) := by kernel_rfl
theorem vt42 : varTy Try.prog 42 = some (5, true) := by kernel_rfl
theorem vt49 : varTy Try.prog 49 = some (1, false) := by kernel_rfl
theorem vt55 : varTy Try.prog 55 = some (5, true) := by kernel_rfl
theorem vt68 : varTy Try.prog 68 = some (1, false) := by kernel_rfl
theorem vt75 : varTy Try.prog 75 = some (2, true) := by kernel_rfl
theorem vt82 : varTy Try.prog 82 = some (4, true) := by kernel_rfl
theorem vt91 : varTy Try.prog 91 = some (1, false) := by kernel_rfl
theorem vt100 : varTy Try.prog 100 = some (1, false) := by kernel_rfl
theorem vt131 : varTy Try.prog 131 = some (1, false) := by kernel_rfl
theorem vt145 : varTy Try.prog 145 = some (1, false) := by kernel_rfl
theorem vt147 : varTy Try.prog 147 = some (1, false) := by kernel_rfl
theorem vt160 : varTy Try.prog 160 = some (1, false) := by kernel_rfl
theorem zl3 : zeroL Try.prog 3 = some (LV.p (PV.int IntKind.i64 0)) := by kernel_rfl
theorem zl4 : zeroL Try.prog 4 = some (LV.p (PV.bool false)) := by kernel_rfl
theorem zt24 : zeroTy Try.prog 24 = some [LV.p (PV.int IntKind.u64 0), LV.p (PV.int IntKind.u64 0)] := by kernel_rfl
theorem zt42 : zeroTy Try.prog 42 = some [LV.p (PV.int IntKind.i64 0), LV.p (PV.int IntKind.i64 0), LV.p (PV.int IntKind.u64 0), LV.p (PV.int IntKind.u64 0), LV.p (PV.int IntKind.u64 0)] := by kernel_rfl
theorem zt49 : zeroTy Try.prog 49 = some [LV.zs] := by kernel_rfl
theorem zt55 : zeroTy Try.prog 55 = some [LV.zs, LV.p (PV.int IntKind.u64 0), LV.p (PV.int IntKind.i64 0), LV.p (PV.int IntKind.i64 0), LV.p (PV.int IntKind.i64 0)] := by kernel_rfl
theorem zt75 : zeroTy Try.prog 75 = some [LV.zs, LV.zs] := by kernel_rfl
theorem zt82 : zeroTy Try.prog 82 = some [LV.p (PV.int IntKind.i64 0), LV.p (PV.int IntKind.i64 0), LV.p (PV.int IntKind.u64 0), LV.p (PV.int IntKind.u64 0)] := by kernel_rfl
theorem zt145 : zeroTy Try.prog 145 = some [LV.any] := by kernel_rfl
theorem zt160 : zeroTy Try.prog 160 = some [LV.any] := by kernel_rfl
end
abbrev ID := Int × Int
def idP (p : ID) : PV := .agg [.int .u64 p.1, .int .u64 p.2]
def wordP (x : Int) : PV := .int .u64 x
/-- A block. -/
structure Bk where
  Slot : Int
  From : Int
  Parent : ID
  Salt : Int
  deriving DecidableEq
def blkP (b : Bk) : PV := .agg [.int .i64 b.Slot, .int .i64 b.From, .int .u64 b.Parent.1, .int .u64 b.Parent.2, .int .u64 b.Salt]
/-- A vote. -/
structure Vt where
  From : Int
  Slot : Int
  Head : ID
  deriving DecidableEq
def vtP (v : Vt) : PV := .agg [.int .i64 v.From, .int .i64 v.Slot, .int .u64 v.Head.1, .int .u64 v.Head.2]
/-- What all agree on. -/
structure Cf where
  W : List Int
  Seed : Int
  Epoch : Int
  Num : Int
  Den : Int
def cfP (c : Cf) : PV := .agg [.slice 1 (c.W.map i64P), .int .u64 c.Seed, .int .i64 c.Epoch, .int .i64 c.Num, .int .i64 c.Den]
/-- A view. -/
structure Vw where
  B : List Bk
  V : List Vt
def vwP (v : Vw) : PV := .agg [.slice 5 (v.B.map blkP), .slice 4 (v.V.map vtP)]
/-- A cursor. -/
structure Cu where
  ID : Go.Mg.ID
  Slot : Int
  Revoked : Int
  deriving DecidableEq
/-- A block, and how much is on it. -/
structure Rk where
  n : Int
  id : Go.Mg.ID
theorem idKey : KeyOk idP 2 true := ⟨fun a b => by
  obtain ⟨x, y⟩ := a
  obtain ⟨z, w⟩ := b
  simp only [idP, keyEq, eqCells2, Bool.and_true, Prod.mk.injEq, Option.some.injEq]
  by_cases h1 : x = z <;> by_cases h2 : y = w <;> simp [h1, h2], fun _ => rfl⟩
theorem vtKey : KeyOk vtP 4 true := ⟨fun a b => by
  obtain ⟨a1, a2, a3⟩ := a
  obtain ⟨b1, b2, b3⟩ := b
  simp only [vtP, keyEq, eqCells, if_pos, Option.some.injEq, Vt.mk.injEq]
  rw [Bool.eq_iff_iff]
  obtain ⟨a3, a4⟩ := a3
  obtain ⟨b3, b4⟩ := b3
  simp, fun _ => rfl⟩
open Go.Proofs
/-- What mix.Word does. -/
def word (x : Int) : Int :=
  let a := IntKind.u64.wrap (bits .xor .u64 x (x.fdiv (2 ^ (min (Int.toNat 30) IntKind.u64.bits))) * 13787848793156543929)
  let b := IntKind.u64.wrap (bits .xor .u64 a (a.fdiv (2 ^ (min (Int.toNat 27) IntKind.u64.bits))) * 10723151780598845931)
  bits .xor .u64 b (b.fdiv (2 ^ (min (Int.toNat 31) IntKind.u64.bits)))
def step (h x : Int) : Int := word (IntKind.u64.wrap (bits .xor .u64 h x + 11400714819323198485))
/-- The complement of a word. -/
def inv (x : Int) : Int := bits .xor .u64 (if IntKind.u64.signed then -1 else IntKind.u64.max) x
set_option maxRecDepth 100000 in
theorem c146 {x : Int} : LPure Try.prog 146 [.int .u64 x] [.int .u64 (word x)] := by
  refine LPure.start Try.func146 rfl rfl rfl rfl ?_
  refine LW.seq ?_
  refine LW.region ?_
  refine LOps.st rfl rfl rfl (LOp.assign rfl rfl) ?_
  refine LOps.nil ?_
  refine thn_n ?_
  refine LW.seq ?_
  refine LW.region ?_
  refine LOps.st rfl rfl rfl (LOp.move rfl rfl) ?_
  refine LOps.st rfl rfl rfl (LOp.move rfl rfl) ?_
  refine LOps.st rfl rfl rfl (LOp.shr rfl rfl rfl (by decide)) ?_
  refine LOps.st rfl rfl rfl (LOp.bin rfl rfl rfl rfl) ?_
  refine LOps.st rfl rfl rfl (LOp.bin rfl rfl rfl rfl) ?_
  refine LOps.st rfl rfl rfl (LOp.assign rfl rfl) ?_
  refine LOps.nil ?_
  refine thn_n ?_
  refine LW.seq ?_
  refine LW.region ?_
  refine LOps.st rfl rfl rfl (LOp.move rfl rfl) ?_
  refine LOps.st rfl rfl rfl (LOp.move rfl rfl) ?_
  refine LOps.st rfl rfl rfl (LOp.shr rfl rfl rfl (by decide)) ?_
  refine LOps.st rfl rfl rfl (LOp.bin rfl rfl rfl rfl) ?_
  refine LOps.st rfl rfl rfl (LOp.bin rfl rfl rfl rfl) ?_
  refine LOps.st rfl rfl rfl (LOp.assign rfl rfl) ?_
  refine LOps.nil ?_
  refine thn_n ?_
  refine LW.seq ?_
  refine LW.region ?_
  refine LOps.st rfl rfl rfl (LOp.move rfl rfl) ?_
  refine LOps.st rfl rfl rfl (LOp.move rfl rfl) ?_
  refine LOps.st rfl rfl rfl (LOp.shr rfl rfl rfl (by decide)) ?_
  refine LOps.st rfl rfl rfl (LOp.bin rfl rfl rfl rfl) ?_
  refine LOps.st rfl rfl rfl (LOp.assign rfl rfl) ?_
  refine LOps.nil ?_
  refine thn_n ?_
  refine LW.ret ?_
  refine finP_ret (.one (.tmp rfl)) ?_
  exact Conv.p
set_option maxRecDepth 100000 in
theorem c108 {h x : Int} : LPure Try.prog 108 [.int .u64 h, .int .u64 x] [.int .u64 (step h x)] := by
  refine LPure.start Try.func108 rfl rfl rfl rfl ?_
  refine LW.seq ?_
  refine LW.region ?_
  refine LOps.st rfl rfl rfl (LOp.assign rfl rfl) ?_
  refine LOps.nil ?_
  refine thn_n ?_
  refine LW.seq ?_
  refine LW.region ?_
  refine LOps.st rfl rfl rfl (LOp.move rfl rfl) ?_
  refine LOps.st rfl rfl rfl (LOp.move rfl rfl) ?_
  refine LOps.st rfl rfl rfl (LOp.bin rfl rfl rfl rfl) ?_
  refine LOps.st rfl rfl rfl (LOp.bin rfl rfl rfl rfl) ?_
  refine LOps.st rfl rfl rfl (LOp.call rfl rfl rfl (by kernel_rfl) (LC.pure c146 (.cons Conv.p .nil))) ?_
  refine LOps.st rfl rfl rfl (LOp.assign rfl rfl) ?_
  refine LOps.nil ?_
  refine thn_n ?_
  refine LW.ret ?_
  refine finP_ret (.one (.tmp rfl)) ?_
  exact Conv.p
set_option maxRecDepth 100000 in
theorem c143 {x a b : Int} {id : Nat} {H H' : List LObj} (hH : nth H id = some (.box [.p (.int .u64 a), .p (.int .u64 b)])) (hH' : setC H id (.box [.p (.int .u64 (step a x)), .p (.int .u64 (step b (inv x)))]) = some H') : LC Try.prog 143 [.p (.int .u64 x), .ptr id 0] H (Is (.tup []) H') := by
  refine LC.start Try.func143 rfl rfl rfl ?_
  refine LW.drawLast (m := 10) (by kernel_rfl) (by kernel_rfl) (by kernel_rfl) ?_
  refine LO.st rfl rfl rfl (LOp.indexAddrA rfl rfl rfl at24 (by decide) (by decide)) ?_
  refine LO.st rfl rfl rfl (LOp.load rfl rfl hH vt22 rfl rfl) ?_
  refine LO.st rfl rfl rfl (LOp.move rfl rfl) ?_
  refine LO.st rfl rfl rfl (LOp.call rfl rfl rfl (by kernel_rfl) (LC.pure c108 (.cons Conv.p (.cons Conv.p .nil)))) ?_
  refine LO.st rfl rfl rfl (LOp.indexAddrA rfl rfl rfl at24 (by decide) (by decide)) ?_
  refine LO.st rfl rfl rfl (LOp.load rfl rfl hH vt22 rfl rfl) ?_
  refine LO.st rfl rfl rfl (LOp.move rfl rfl) ?_
  refine LO.st rfl rfl rfl (LOp.compl rfl rfl) ?_
  refine LO.st rfl rfl rfl (LOp.call rfl rfl rfl (by kernel_rfl) (LC.pure c108 (.cons Conv.p (.cons Conv.p .nil)))) ?_
  refine LO.st rfl rfl rfl (LOp.build rfl bt24 rfl rfl rfl) ?_
  refine LO.nil ?_
  refine LOps.st rfl rfl rfl (LOp.store rfl rfl rfl hH vt24 rfl rfl rfl hH') ?_
  refine LOps.nil ?_
  refine fin_end .none ?_
  exact ⟨rfl, rfl⟩
open Go.Proofs
/-- A word more. -/
def mixStep (p : Int × Int) (x : Int) : Int × Int := (step p.1 x, step p.2 (inv x))
/-- What mix.Of tells of words. -/
def mixOf (l : List Int) : Int × Int := mixStep (l.foldl mixStep (1, 2)) (IntKind.u64.wrap l.length)
set_option maxRecDepth 100000 in
theorem c99 {l : List Int} : LPure Try.prog 99 [.slice 1 (l.map wordP)] [idP (mixOf l)] := by
  refine LPure.start Try.func99 rfl rfl rfl rfl ?_
  refine LW.seq ?_
  refine LW.ok (t := 0) rfl (fun ok => ?_)
  have hlen := ok.len
  simp only [List.length_map, maxLen] at hlen
  refine LW.region ?_
  refine LOps.st rfl rfl rfl (LOp.alloc rfl zt24 rfl rfl) ?_
  refine LOps.nil ?_
  refine thn_n ?_
  refine LW.seq ?_
  refine LW.region ?_
  refine LOps.st rfl rfl rfl (LOp.build rfl bt24 rfl rfl rfl) ?_
  refine LOps.st rfl rfl rfl (LOp.alloc rfl zt24 rfl rfl) ?_
  refine LOps.st rfl rfl rfl (LOp.store rfl rfl rfl rfl vt24 rfl rfl rfl rfl) ?_
  refine LOps.nil ?_
  refine thn_n ?_
  refine LW.seq ?_
  refine LW.region ?_
  refine LOps.st rfl rfl rfl (LOp.makeFunc rfl rfl rfl) ?_
  refine LOps.st rfl rfl rfl (LOp.assign rfl rfl) ?_
  refine LOps.nil ?_
  refine thn_n ?_
  refine LW.seq ?_
  refine LW.seq ?_
  refine LW.region ?_
  refine LOps.st rfl rfl rfl (LOp.move rfl rfl) ?_
  refine LOps.st rfl rfl rfl (LOp.len rfl rfl (by kernel_rfl)) ?_
  refine LOps.st rfl rfl rfl (LOp.move rfl rfl) ?_
  refine LOps.nil ?_
  refine thn_n ?_
  refine LW.block ?_
  refine LW.loopOf (E := fun x : Nat × Int × Int => [(0, .p (.slice 1 (l.map wordP))), (2, .ptr 0 0), (3, .ptr 1 0), (4, .fn 143 [] [.ptr 1 0]), (9, .p (.slice 1 (l.map wordP))), (10, .p (.int .i64 (l.map wordP).length)), (11, .p (.int .i64 (x.1 : Nat)))]) (O := fun x => [.box [.p (.int .u64 0), .p (.int .u64 0)], .box [.p (.int .u64 x.2.1), .p (.int .u64 x.2.2)]]) (G := fun x => x.1 ≤ l.length ∧ x.2 = (l.take x.1).foldl mixStep (1, 2)) (meas := fun x => l.length - x.1) (0, 1, 2) (Weak.of 2 ⟨rfl, rfl, rfl, rfl, rfl, rfl, rfl, trivial⟩ rfl rfl rfl rfl) ⟨Nat.zero_le _, rfl⟩ (fun x hx => ?_)
  refine LW.seq ?_
  refine LW.region ?_
  refine LOps.st rfl rfl rfl (LOp.bin rfl rfl rfl rfl) ?_
  refine LOps.nil ?_
  refine thn_n ?_
  refine LW.seq ?_
  refine LW.cond rfl (fun g1 => ?_) (fun g1 => ?_)
  · -- g1 is True
    refine LW.skip ?_
    refine thn_n ?_
    refine LW.seq ?_
    refine LW.block ?_
    refine LW.seq ?_
    have hlt : x.1 < l.length := by simpa using g1
    obtain ⟨y, hy⟩ := list_get hlt
    refine LW.region ?_
    refine LOps.st rfl rfl rfl (LOp.indexAddr rfl rfl rfl st98 (by omega) (map_get hy) rfl) ?_
    refine LOps.st rfl rfl rfl (LOp.loadC rfl rfl rfl vt22 rfl rfl) ?_
    refine LOps.st rfl rfl rfl (LOp.assign rfl rfl) ?_
    refine LOps.nil ?_
    refine thn_n ?_
    refine LW.region ?_
    refine LOps.st rfl rfl rfl (LOp.move rfl rfl) ?_
    refine LOps.st rfl rfl rfl (LOp.move rfl rfl) ?_
    refine LOps.st rfl rfl rfl (LOp.call rfl rfl rfl (by kernel_rfl) (c143 (id := 1) rfl rfl)) ?_
    refine LOps.nil ?_
    refine inBlk_n ?_
    refine thn_n ?_
    refine LW.region ?_
    refine LOps.st rfl rfl rfl (LOp.isEq (y := .p (.int .i64 ((x.1 + 1 : Nat) : Int))) (LOp.bin rfl rfl rfl rfl) (by rw [wrapI (by omega) (by omega)]; rfl)) ?_
    refine LOps.st rfl rfl rfl (LOp.move rfl rfl) ?_
    refine LOps.nil ?_
    refine thn_n ?_
    refine ⟨(x.1 + 1, mixStep x.2 y), ?_, ?_, Weak.of 2 ⟨rfl, rfl, rfl, rfl, rfl, rfl, rfl, trivial⟩ rfl rfl rfl rfl⟩
    · simp only; omega
    · refine ⟨hlt, ?_⟩; rw [List.take_add_one, hy, List.foldl_append, ← hx.2]; rfl
  · -- g1 is False
    refine LW.exit ?_
    refine thn_e ?_
    refine thn_e ?_
    refine inBlk_self ?_
    refine thn_n ?_
    refine LW.seq ?_
    have hnlt : ¬ x.1 < l.length := by simpa using g1
    have hend : x.1 = l.length := by omega
    have hfold : x.2 = l.foldl mixStep (1, 2) := by rw [hx.2, hend, List.take_length]
    refine LW.region ?_
    refine LOps.st rfl rfl rfl (LOp.move rfl rfl) ?_
    refine LOps.st rfl rfl rfl (LOp.move rfl rfl) ?_
    refine LOps.st rfl rfl rfl (LOp.len rfl rfl (by kernel_rfl)) ?_
    refine LOps.st rfl rfl rfl (LOp.convert (k' := .u64) rfl rfl (by kernel_rfl)) ?_
    refine LOps.st rfl rfl rfl (LOp.call rfl rfl rfl (by kernel_rfl) (c143 (id := 1) rfl rfl)) ?_
    refine LOps.nil ?_
    refine thn_n ?_
    refine LW.seq ?_
    refine LW.region ?_
    refine LOps.st rfl rfl rfl (LOp.load rfl rfl rfl vt24 rfl rfl) ?_
    refine LOps.st rfl rfl rfl (LOp.store rfl rfl rfl rfl vt24 rfl rfl rfl rfl) ?_
    refine LOps.nil ?_
    refine thn_n ?_
    refine LW.ret ?_
    refine finP_ret (.one (.cellAgg rfl rfl (by kernel_rfl) rfl)) ?_
    refine Conv.pe ?_
    simp only [List.length_map, idP, mixOf, ← hfold]
    rfl
open Go.Proofs
def nameWords (b : Bk) : List Int := [1, IntKind.u64.wrap b.Slot, IntKind.u64.wrap b.From, b.Parent.1, b.Parent.2, b.Salt]
/-- A block's name. -/
def nm (b : Bk) : ID := mixOf (nameWords b)
set_option maxRecDepth 100000 in
theorem c50 {b : Bk} : LPure Try.prog 50 [blkP b] [idP (nm b)] := by
  refine LPure.start Try.func50 rfl rfl rfl rfl ?_
  refine LW.seq ?_
  refine LW.region ?_
  refine LOps.st rfl rfl rfl (LOp.box rfl rfl rfl rfl rfl) ?_
  refine LOps.st rfl rfl rfl (LOp.alloc rfl zt24 rfl rfl) ?_
  refine LOps.nil ?_
  refine thn_n ?_
  refine LW.seq ?_
  refine LW.region ?_
  refine LOps.st rfl rfl rfl (LOp.fieldAddr rfl rfl ft42_0) ?_
  refine LOps.st rfl rfl rfl (LOp.load rfl rfl rfl vt3 rfl rfl) ?_
  refine LOps.st rfl rfl rfl (LOp.convert (k' := .u64) rfl rfl (by kernel_rfl)) ?_
  refine LOps.st rfl rfl rfl (LOp.fieldAddr rfl rfl ft42_1) ?_
  refine LOps.st rfl rfl rfl (LOp.load rfl rfl rfl vt3 rfl rfl) ?_
  refine LOps.st rfl rfl rfl (LOp.convert (k' := .u64) rfl rfl (by kernel_rfl)) ?_
  refine LOps.st rfl rfl rfl (LOp.fieldAddr rfl rfl ft42_2) ?_
  refine LOps.st rfl rfl rfl (LOp.indexAddrA rfl rfl rfl at24 (by decide) (by decide)) ?_
  refine LOps.st rfl rfl rfl (LOp.load rfl rfl rfl vt22 rfl rfl) ?_
  refine LOps.st rfl rfl rfl (LOp.fieldAddr rfl rfl ft42_2) ?_
  refine LOps.st rfl rfl rfl (LOp.indexAddrA rfl rfl rfl at24 (by decide) (by decide)) ?_
  refine LOps.st rfl rfl rfl (LOp.load rfl rfl rfl vt22 rfl rfl) ?_
  refine LOps.st rfl rfl rfl (LOp.fieldAddr rfl rfl ft42_3) ?_
  refine LOps.st rfl rfl rfl (LOp.load rfl rfl rfl vt22 rfl rfl) ?_
  refine LOps.st rfl rfl rfl (LOp.buildSlice rfl st98 rfl rfl rfl rfl rfl) ?_
  refine LOps.st rfl rfl rfl (LOp.call rfl rfl rfl (by kernel_rfl) (LC.pure (c99 (l := nameWords b)) (.cons Conv.p .nil))) ?_
  refine LOps.st rfl rfl rfl (LOp.store rfl rfl rfl rfl vt24 rfl rfl rfl rfl) ?_
  refine LOps.nil ?_
  refine thn_n ?_
  refine LW.ret ?_
  refine finP_ret (.one (.cellAgg rfl rfl (by kernel_rfl) rfl)) ?_
  exact Conv.p
open Go.Proofs
/-- The slot of the block at i; -1 is the beginning. -/
def slotIx (l : List Bk) (i : Int) : Int := if i = -1 then 0 else match l[i.toNat]? with
  | some b => b.Slot
  | none => 0
abbrev ixV : Int → LV := fun v => .p (.int .i64 v)
/-- Where each block is, by its name, if blocks may be. -/
def placesGo (l : List Bk) : List Bk → Nat → List (ID × Int) → Option (List (ID × Int))
  | [], _, m => some m
  | b :: r, i, m => match findE m b.Parent with
    | none => none
    | some p => if b.Slot ≤ slotIx l p then none else match findE m (nm b) with
      | some _ => none
      | none => placesGo l r (i + 1) (m ++ [(nm b, (i : Int))])
def places (l : List Bk) : Option (List (ID × Int)) := placesGo l l 0 [((0, 0), -1)]
theorem placesGo_at {l : List Bk} {i : Nat} {y : Bk} (hy : l[i]? = some y) (m : List (ID × Int)) : placesGo l (l.drop i) i m = match findE m y.Parent with
    | none => none
    | some p => if y.Slot ≤ slotIx l p then none else match findE m (nm y) with
      | some _ => none
      | none => placesGo l (l.drop (i + 1)) (i + 1) (m ++ [(nm y, (i : Int))]) := by
  obtain ⟨hi, rfl⟩ := List.getElem?_eq_some_iff.1 hy
  rw [List.drop_eq_getElem_cons hi]
  rfl
set_option maxRecDepth 100000 in
theorem c142 {l : List Bk} {i : Int} {id : Nat} {H : List LObj} (hH : nth H id = some (.box [.p (.slice 5 (l.map blkP))])) (hi : i = -1 ∨ 0 ≤ i ∧ i < l.length) :
    LC Try.prog 142 [.p (.int .i64 i), .ptr id 0] H (Is (.p (.int .i64 (slotIx l i))) H) := by
  refine LC.start Try.func142 rfl rfl rfl ?_
  refine LW.seq ?_
  refine LW.region ?_
  refine LOps.st rfl rfl rfl (LOp.assign rfl rfl) ?_
  refine LOps.nil ?_
  refine thn_n ?_
  refine LW.seq ?_
  refine LW.seq ?_
  refine LW.region ?_
  refine LOps.st rfl rfl rfl (LOp.move rfl rfl) ?_
  refine LOps.st rfl rfl rfl (LOp.bin rfl rfl rfl rfl) ?_
  refine LOps.nil ?_
  refine thn_n ?_
  refine LW.cond rfl (fun g1 => ?_) (fun g1 => ?_)
  · -- g1 is True
    refine LW.seq ?_
    have he : i = -1 := by simpa using g1
    refine LW.region ?_
    refine LOps.st rfl rfl rfl (LOp.assign rfl rfl) ?_
    refine LOps.nil ?_
    refine thn_n ?_
    refine LW.ret ?_
    refine thn_r ?_
    refine fin_ret (.one (.tmp rfl)) ?_
    exact ⟨by simp [slotIx, he], rfl⟩
  · -- g1 is False
    refine LW.skip ?_
    refine thn_n ?_
    refine LW.seq ?_
    have hne : i ≠ -1 := by simpa using g1
    obtain ⟨y, hy⟩ := list_get (l := l) (i := i.toNat) (by omega)
    have hiy : (l.map blkP)[i.toNat]? = some (blkP y) := by simp [hy]
    refine LW.region ?_
    refine LOps.st rfl rfl rfl (LOp.load rfl rfl hH vt27 rfl rfl) ?_
    refine LOps.st rfl rfl rfl (LOp.move rfl rfl) ?_
    refine LOps.st rfl rfl rfl (LOp.indexAddr rfl rfl rfl st27 (by omega) hiy rfl) ?_
    refine LOps.st rfl rfl rfl (LOp.fieldAddrC rfl rfl ft42_0 rfl) ?_
    refine LOps.st rfl rfl rfl (LOp.loadC rfl rfl rfl vt3 rfl rfl) ?_
    refine LOps.st rfl rfl rfl (LOp.assign rfl rfl) ?_
    refine LOps.nil ?_
    refine thn_n ?_
    refine LW.ret ?_
    refine fin_ret (.one (.tmp rfl)) ?_
    exact ⟨by simp [slotIx, hne, hy], rfl⟩
set_option maxRecDepth 100000 in
theorem c94 {l : List Bk} : LC Try.prog 94 [.p (.slice 5 (l.map blkP))] [] fun x H =>
    (∃ m, places l = some m ∧ x = .tup [.map 1, .p (.bool true)] ∧ H = [.box [.p (.slice 5 (l.map blkP))], .map (entsOf idP ixV m)]) ∨ (places l = none ∧ x = .tup [.nilmap, .p (.bool false)] ∧ H = []) := by
  refine LC.start Try.func94 rfl rfl rfl ?_
  refine LW.seq ?_
  refine LW.ok (t := 0) rfl (fun ok => ?_)
  have hlen := ok.len
  simp only [List.length_map, maxLen] at hlen
  refine LW.region ?_
  refine LOps.st rfl rfl rfl (LOp.box rfl rfl rfl rfl rfl) ?_
  refine LOps.st rfl rfl rfl (LOp.assign rfl rfl) ?_
  refine LOps.st rfl rfl rfl (LOp.assign rfl rfl) ?_
  refine LOps.nil ?_
  refine thn_n ?_
  refine LW.seq ?_
  refine LW.region ?_
  refine LOps.st rfl rfl rfl (LOp.makeMap rfl rfl rfl) ?_
  refine LOps.st rfl rfl rfl (LOp.build rfl bt24 rfl rfl rfl) ?_
  refine LOps.st rfl rfl rfl (LOp.setNew (f := idP) (g := ixV) (m := []) (a := (0, 0)) (v := -1) idKey rfl (.inr rfl) rfl rfl rfl rfl rfl mt91 rfl) ?_
  refine LOps.st rfl rfl rfl (LOp.move rfl rfl) ?_
  refine LOps.st rfl rfl rfl (LOp.assign rfl rfl) ?_
  refine LOps.nil ?_
  refine thn_n ?_
  refine LW.seq ?_
  refine LW.region ?_
  refine LOps.st rfl rfl rfl (LOp.makeFunc rfl rfl rfl) ?_
  refine LOps.st rfl rfl rfl (LOp.assign rfl rfl) ?_
  refine LOps.nil ?_
  refine thn_n ?_
  refine LW.seq ?_
  refine LW.seq ?_
  refine LW.region ?_
  refine LOps.st rfl rfl rfl (LOp.load rfl rfl rfl vt27 rfl rfl) ?_
  refine LOps.st rfl rfl rfl (LOp.len rfl rfl (by kernel_rfl)) ?_
  refine LOps.st rfl rfl rfl (LOp.move rfl rfl) ?_
  refine LOps.nil ?_
  refine thn_n ?_
  refine LW.block ?_
  refine LW.loopOf (E := fun x : Nat × List (ID × Int) => [(1, .ptr 0 0), (4, .map 1), (5, .fn 142 [] [.ptr 0 0]), (17, .p (.slice 5 (l.map blkP))), (18, .p (.int .i64 (l.map blkP).length)), (19, .p (.int .i64 (x.1 : Nat)))]) (O := fun x => [.box [.p (.slice 5 (l.map blkP))], .map (entsOf idP ixV x.2)]) (G := fun x => x.1 ≤ l.length ∧ placesGo l (l.drop x.1) x.1 x.2 = places l ∧ ∀ k v, findE x.2 k = some v → v = -1 ∨ 0 ≤ v ∧ v < l.length) (meas := fun x => l.length - x.1) (0, [((0, 0), -1)]) (Weak.of 2 ⟨rfl, rfl, rfl, rfl, rfl, rfl, trivial⟩ rfl rfl rfl (lowObjs_cons rfl (lowObjs_cons (entsLow (fun _ => rfl) _) rfl))) ⟨Nat.zero_le _, rfl, fun k v h => by unfold findE findE at h; split at h <;> cases h; exact .inl rfl⟩ (fun x hx => ?_)
  refine LW.seq ?_
  refine LW.region ?_
  refine LOps.st rfl rfl rfl (LOp.bin rfl rfl rfl rfl) ?_
  refine LOps.nil ?_
  refine thn_n ?_
  refine LW.seq ?_
  refine LW.cond rfl (fun g1 => ?_) (fun g1 => ?_)
  · -- g1 is True
    refine LW.skip ?_
    refine thn_n ?_
    refine LW.seq ?_
    refine LW.block ?_
    refine LW.seq ?_
    have hlt : x.1 < l.length := by simpa using g1
    obtain ⟨y, hy⟩ := list_get hlt
    refine LW.region ?_
    refine LOps.st rfl rfl rfl (LOp.move rfl rfl) ?_
    refine LOps.st rfl rfl rfl (LOp.indexAddr rfl rfl rfl st27 (by omega) (map_get hy) rfl) ?_
    refine LOps.st rfl rfl rfl (LOp.loadC rfl rfl rfl vt42 rfl rfl) ?_
    refine LOps.st rfl rfl rfl (LOp.alloc rfl zt42 rfl rfl) ?_
    refine LOps.st rfl rfl rfl (LOp.assign rfl rfl) ?_
    refine LOps.st rfl rfl rfl (LOp.store rfl rfl rfl rfl vt42 rfl rfl rfl rfl) ?_
    refine LOps.nil ?_
    refine thn_n ?_
    refine LW.seq ?_
    refine LW.region ?_
    refine LOps.st rfl rfl rfl (LOp.move rfl rfl) ?_
    refine LOps.st rfl rfl rfl (LOp.fieldAddr rfl rfl ft42_2) ?_
    refine LOps.st rfl rfl rfl (LOp.load rfl rfl rfl vt24 rfl rfl) ?_
    rcases hp : findE x.2 y.Parent with _ | p
    · -- case 0
      refine LOps.st rfl rfl rfl ((LOp.getMiss idKey hp rfl rfl rfl rfl mt91 zl3 rfl)) ?_
      refine LOps.st rfl rfl rfl (LOp.move rfl rfl) ?_
      refine LOps.st rfl rfl rfl (LOp.extract rfl rfl rfl) ?_
      refine LOps.st rfl rfl rfl (LOp.extract rfl rfl rfl) ?_
      refine LOps.st rfl rfl rfl (LOp.assign rfl rfl) ?_
      refine LOps.st rfl rfl rfl (LOp.assign rfl rfl) ?_
      refine LOps.nil ?_
      refine thn_n ?_
      refine LW.seq ?_
      refine LW.seq ?_
      refine LW.draw (by kernel_rfl) (by kernel_rfl) ?_
      refine LO.st rfl rfl rfl (LOp.move rfl rfl) ?_
      refine LO.st rfl rfl rfl (LOp.not rfl rfl) ?_
      refine LO.st rfl rfl rfl (LOp.move rfl rfl) ?_
      refine LO.sk rfl rfl rfl rfl rfl rfl ?_
      refine LO.sk rfl rfl rfl rfl rfl rfl ?_
      refine LO.sk rfl rfl rfl rfl rfl rfl ?_
      refine LO.sk rfl rfl rfl rfl rfl rfl ?_
      refine LO.sk rfl rfl rfl rfl rfl rfl ?_
      refine LO.sk rfl rfl rfl rfl rfl rfl ?_
      refine LO.st rfl rfl rfl (LOp.pickT rfl rfl rfl) ?_
      refine LO.nil ?_
      refine thn_n ?_
      refine LW.condT rfl ?_
      refine LW.seq ?_
      refine LW.region ?_
      refine LOps.st rfl rfl rfl (LOp.assign rfl rfl) ?_
      refine LOps.st rfl rfl rfl (LOp.assign rfl rfl) ?_
      refine LOps.nil ?_
      refine thn_n ?_
      refine LW.ret ?_
      refine thn_r ?_
      refine inBlk_r ?_
      refine thn_r ?_
      refine thn_r ?_
      refine inBlk_r ?_
      refine thn_r ?_
      refine fin_retW (env' := [(2, .nilmap), (3, .p (.bool false))]) (H' := []) (Weak.of 0 ⟨rfl, rfl, trivial⟩ rfl rfl rfl rfl) (.two (.tmp rfl) (.tmp rfl)) (.inr ⟨?_, rfl, rfl⟩)
      rw [← hx.2.1, placesGo_at hy]
      first | (simp only [hp]; done) | (simp only [hp]; rw [if_pos (of_decide_eq_true g2)]; done) | (simp only [hp, hq]; split <;> rfl)
    · -- case 1
      refine LOps.st rfl rfl rfl ((LOp.getHit idKey hp rfl rfl rfl rfl mt91 rfl)) ?_
      refine LOps.st rfl rfl rfl (LOp.move rfl rfl) ?_
      refine LOps.st rfl rfl rfl (LOp.extract rfl rfl rfl) ?_
      refine LOps.st rfl rfl rfl (LOp.extract rfl rfl rfl) ?_
      refine LOps.st rfl rfl rfl (LOp.assign rfl rfl) ?_
      refine LOps.st rfl rfl rfl (LOp.assign rfl rfl) ?_
      refine LOps.nil ?_
      refine thn_n ?_
      refine LW.seq ?_
      refine LW.seq ?_
      refine LW.draw (by kernel_rfl) (by kernel_rfl) ?_
      refine LO.st rfl rfl rfl (LOp.move rfl rfl) ?_
      refine LO.st rfl rfl rfl (LOp.not rfl rfl) ?_
      refine LO.st rfl rfl rfl (LOp.move rfl rfl) ?_
      refine LO.gd rfl rfl rfl rfl rfl (LOp.fieldAddr rfl rfl ft42_0) ?_
      refine LO.gd rfl rfl rfl rfl rfl (LOp.load rfl rfl rfl vt3 rfl rfl) ?_
      refine LO.gd rfl rfl rfl rfl rfl (LOp.move rfl rfl) ?_
      refine LO.gd rfl rfl rfl rfl rfl (LOp.move rfl rfl) ?_
      refine LO.gd rfl rfl rfl rfl rfl (LOp.call rfl rfl rfl (by kernel_rfl) (c142 (id := 0) rfl (hx.2.2 _ _ hp))) ?_
      refine LO.gd rfl rfl rfl rfl rfl (LOp.bin rfl rfl rfl rfl) ?_
      refine LO.st rfl rfl rfl (LOp.pickF rfl rfl rfl) ?_
      refine LO.nil ?_
      refine thn_n ?_
      refine LW.cond rfl (fun g2 => ?_) (fun g2 => ?_)
      · -- g2 is True
        refine LW.seq ?_
        refine LW.region ?_
        refine LOps.st rfl rfl rfl (LOp.assign rfl rfl) ?_
        refine LOps.st rfl rfl rfl (LOp.assign rfl rfl) ?_
        refine LOps.nil ?_
        refine thn_n ?_
        refine LW.ret ?_
        refine thn_r ?_
        refine inBlk_r ?_
        refine thn_r ?_
        refine thn_r ?_
        refine inBlk_r ?_
        refine thn_r ?_
        refine fin_retW (env' := [(2, .nilmap), (3, .p (.bool false))]) (H' := []) (Weak.of 0 ⟨rfl, rfl, trivial⟩ rfl rfl rfl rfl) (.two (.tmp rfl) (.tmp rfl)) (.inr ⟨?_, rfl, rfl⟩)
        rw [← hx.2.1, placesGo_at hy]
        first | (simp only [hp]; done) | (simp only [hp]; rw [if_pos (of_decide_eq_true g2)]; done) | (simp only [hp, hq]; split <;> rfl)
      · -- g2 is False
        refine LW.skip ?_
        refine thn_n ?_
        refine LW.seq ?_
        refine LW.region ?_
        refine LOps.st rfl rfl rfl (LOp.load rfl rfl rfl vt42 rfl rfl) ?_
        refine LOps.st rfl rfl rfl (LOp.call rfl rfl rfl (by kernel_rfl) (LC.pure (c50 (b := y)) (.cons Conv.p .nil))) ?_
        refine LOps.st rfl rfl rfl (LOp.alloc rfl zt24 rfl rfl) ?_
        refine LOps.st rfl rfl rfl (LOp.store rfl rfl rfl rfl vt24 rfl rfl rfl rfl) ?_
        refine LOps.nil ?_
        refine thn_n ?_
        refine LW.seq ?_
        refine LW.seq ?_
        refine LW.region ?_
        refine LOps.st rfl rfl rfl (LOp.move rfl rfl) ?_
        refine LOps.st rfl rfl rfl (LOp.load rfl rfl rfl vt24 rfl rfl) ?_
        rcases hq : findE x.2 (nm y) with _ | q
        · -- case 0
          refine LOps.st rfl rfl rfl ((LOp.getMiss idKey hq rfl rfl rfl rfl mt91 zl3 rfl)) ?_
          refine LOps.st rfl rfl rfl (LOp.move rfl rfl) ?_
          refine LOps.st rfl rfl rfl (LOp.extract rfl rfl rfl) ?_
          refine LOps.st rfl rfl rfl (LOp.extract rfl rfl rfl) ?_
          refine LOps.st rfl rfl rfl (LOp.assign rfl rfl) ?_
          refine LOps.st rfl rfl rfl (LOp.assign rfl rfl) ?_
          refine LOps.nil ?_
          refine thn_n ?_
          refine LW.seq ?_
          refine LW.region ?_
          refine LOps.st rfl rfl rfl (LOp.move rfl rfl) ?_
          refine LOps.nil ?_
          refine thn_n ?_
          refine LW.condF rfl ?_
          refine LW.skip ?_
          refine thn_n ?_
          refine LW.region ?_
          refine LOps.st rfl rfl rfl (LOp.move rfl rfl) ?_
          refine LOps.st rfl rfl rfl (LOp.load rfl rfl rfl vt24 rfl rfl) ?_
          refine LOps.st rfl rfl rfl (LOp.move rfl rfl) ?_
          refine LOps.st rfl rfl rfl (LOp.setNew (f := idP) (g := ixV) (m := x.2) (a := nm y) (v := ((x.1 : Nat) : Int)) idKey hq (.inl rfl) rfl rfl rfl rfl rfl mt91 rfl) ?_
          refine LOps.nil ?_
          refine inBlk_n ?_
          refine thn_n ?_
          refine LW.region ?_
          refine LOps.st rfl rfl rfl (LOp.isEq (y := .p (.int .i64 ((x.1 + 1 : Nat) : Int))) (LOp.bin rfl rfl rfl rfl) (by rw [wrapI (by omega) (by omega)]; rfl)) ?_
          refine LOps.st rfl rfl rfl (LOp.move rfl rfl) ?_
          refine LOps.nil ?_
          refine thn_n ?_
          refine ⟨(x.1 + 1, x.2 ++ [(nm y, ((x.1 : Nat) : Int))]), ?_, ?_, Weak.of 2 ⟨rfl, rfl, rfl, rfl, rfl, rfl, trivial⟩ rfl rfl rfl (lowObjs_cons rfl (lowObjs_cons (entsLow (fun _ => rfl) _) rfl))⟩
          · simp only; omega
          · refine ⟨hlt, ?_, fun k v h => ?_⟩
            · rw [← hx.2.1, placesGo_at hy]; simp only [hp, hq]; rw [if_neg (of_decide_eq_false g2)]
            · rw [findE_append] at h
              rcases hk : findE x.2 k with _ | u
              · rw [hk] at h; simp only [Option.none_or] at h; split at h <;> cases h; omega
              · rw [hk] at h; cases h; exact hx.2.2 k _ hk
        · -- case 1
          refine LOps.st rfl rfl rfl ((LOp.getHit idKey hq rfl rfl rfl rfl mt91 rfl)) ?_
          refine LOps.st rfl rfl rfl (LOp.move rfl rfl) ?_
          refine LOps.st rfl rfl rfl (LOp.extract rfl rfl rfl) ?_
          refine LOps.st rfl rfl rfl (LOp.extract rfl rfl rfl) ?_
          refine LOps.st rfl rfl rfl (LOp.assign rfl rfl) ?_
          refine LOps.st rfl rfl rfl (LOp.assign rfl rfl) ?_
          refine LOps.nil ?_
          refine thn_n ?_
          refine LW.seq ?_
          refine LW.region ?_
          refine LOps.st rfl rfl rfl (LOp.move rfl rfl) ?_
          refine LOps.nil ?_
          refine thn_n ?_
          refine LW.condT rfl ?_
          refine LW.seq ?_
          refine LW.region ?_
          refine LOps.st rfl rfl rfl (LOp.assign rfl rfl) ?_
          refine LOps.st rfl rfl rfl (LOp.assign rfl rfl) ?_
          refine LOps.nil ?_
          refine thn_n ?_
          refine LW.ret ?_
          refine thn_r ?_
          refine inBlk_r ?_
          refine thn_r ?_
          refine thn_r ?_
          refine inBlk_r ?_
          refine thn_r ?_
          refine fin_retW (env' := [(2, .nilmap), (3, .p (.bool false))]) (H' := []) (Weak.of 0 ⟨rfl, rfl, trivial⟩ rfl rfl rfl rfl) (.two (.tmp rfl) (.tmp rfl)) (.inr ⟨?_, rfl, rfl⟩)
          rw [← hx.2.1, placesGo_at hy]
          first | (simp only [hp]; done) | (simp only [hp]; rw [if_pos (of_decide_eq_true g2)]; done) | (simp only [hp, hq]; split <;> rfl)
  · -- g1 is False
    refine LW.exit ?_
    refine thn_e ?_
    refine thn_e ?_
    refine inBlk_self ?_
    refine thn_n ?_
    refine LW.seq ?_
    have hnlt : ¬ x.1 < l.length := by simpa using g1
    have hend : x.1 = l.length := by omega
    refine LW.region ?_
    refine LOps.st rfl rfl rfl (LOp.move rfl rfl) ?_
    refine LOps.st rfl rfl rfl (LOp.assign rfl rfl) ?_
    refine LOps.st rfl rfl rfl (LOp.assign rfl rfl) ?_
    refine LOps.nil ?_
    refine thn_n ?_
    refine LW.ret ?_
    refine fin_retW (env' := [(2, .map 1), (3, .p (.bool true))]) (H' := [.box [.p (.slice 5 (l.map blkP))], .map (entsOf idP ixV x.2)]) (Weak.of 2 ⟨rfl, rfl, trivial⟩ rfl rfl rfl (lowObjs_cons rfl (lowObjs_cons (entsLow (fun _ => rfl) _) rfl))) (.two (.tmp rfl) (.tmp rfl)) (.inl ⟨x.2, ?_, rfl, rfl⟩)
    rw [← hx.2.1, hend, List.drop_length]; rfl
/-- What holds of a map of places. -/
structure PInv (l : List Bk) (m : List (ID × Int)) (n : Nat) : Prop where
  zero : findE m (0, 0) = some (-1)
  known : ∀ k i, findE m k = some i → (i = -1 ∧ k = (0, 0)) ∨ ∃ b p, 0 ≤ i ∧ i < n ∧ l[i.toNat]? = some b ∧ nm b = k ∧ findE m b.Parent = some p ∧ p < i ∧ -1 ≤ p ∧ slotIx l p < b.Slot
  names : ∀ i b, i < n → l[i]? = some b → findE m (nm b) = some (i : Int)
theorem PInv.step {l : List Bk} {m : List (ID × Int)} {n : Nat} {y : Bk} {p : Int} (h : PInv l m n) (hy : l[n]? = some y) (hp : findE m y.Parent = some p) (hs : ¬ y.Slot ≤ slotIx l p) (hq : findE m (nm y) = none) :
    PInv l (m ++ [(nm y, (n : Int))]) (n + 1) := by
  have old : ∀ k i, findE m k = some i → findE (m ++ [(nm y, (n : Int))]) k = some i := fun k i hk => by rw [findE_append, hk]; rfl
  refine ⟨old _ _ h.zero, fun k i hk => ?_, fun i b hi hb => ?_⟩
  · rw [findE_append] at hk
    rcases hm : findE m k with _ | j
    · rw [hm] at hk
      simp only [Option.none_or] at hk
      split at hk
      · rename_i e
        cases hk
        right
        refine ⟨y, p, by omega, by omega, by simpa using hy, e, old _ _ hp, ?_, ?_, by omega⟩
        · rcases h.known _ _ hp with ⟨h1, -⟩ | ⟨b, q, h1, h2, -⟩ <;> omega
        · rcases h.known _ _ hp with ⟨h1, -⟩ | ⟨b, q, h1, h2, -⟩ <;> omega
      · cases hk
    · rw [hm] at hk
      cases hk
      rcases h.known _ _ hm with h1 | ⟨b, q, h1, h2, h3, h4, h5, h6, h7, h8⟩
      · exact .inl h1
      · exact .inr ⟨b, q, h1, by omega, h3, h4, old _ _ h5, h6, h7, h8⟩
  · rcases Nat.lt_succ_iff_lt_or_eq.1 hi with hi | hi
    · exact old _ _ (h.names i b hi hb)
    · subst hi
      rw [hy] at hb; cases hb
      rw [findE_append, hq]; simp
open Go.Proofs
theorem c94N {l : List Bk} {H : List LObj} (h : places l = none) : LC Try.prog 94 [.p (.slice 5 (l.map blkP))] H (Is (.tup [.nilmap, .p (.bool false)]) H) := by
  have h0 : LC Try.prog 94 ([PV.slice 5 (l.map blkP)].map .p) [] (Is (.tup [.nilmap, .p (.bool false)]) []) := c94.mono fun x H hx => by
    rcases hx with ⟨m, hm, -⟩ | ⟨-, h1, h2⟩
    · rw [h] at hm; cases hm
    · exact ⟨h1, h2⟩
  have := LC.frame (H := H) (d := H.length) h0 (.cons Conv.p .nil) (by rw [lenC_of])
  simpa [LV.shift, LV.shifts] using this
theorem c94S {l : List Bk} {m : List (ID × Int)} {H H1 H2 : List LObj} {d : Nat} (h : places l = some m) (hd : lenC H = some d) (h1 : appC H (.box [.p (.slice 5 (l.map blkP))]) = some H1) (h2 : appC H1 (.map (entsOf idP ixV m)) = some H2) :
    LC Try.prog 94 [.p (.slice 5 (l.map blkP))] H (Is (.tup [.map (d + 1), .p (.bool true)]) H2) := by
  have h0 : LC Try.prog 94 ([PV.slice 5 (l.map blkP)].map .p) [] (Is (.tup [.map 1, .p (.bool true)]) [.box [.p (.slice 5 (l.map blkP))], .map (entsOf idP ixV m)]) := c94.mono fun x H hx => by
    rcases hx with ⟨m', hm, h1, h2⟩ | ⟨h1, -⟩
    · rw [h] at hm; cases hm; exact ⟨h1, h2⟩
    · rw [h] at h1; cases h1
  have := LC.frame (H := H) (d := d) h0 (.cons Conv.p .nil) hd
  have e1 := appC_eq h1
  have e2 := appC_eq h2
  subst e1; subst e2
  simpa [LV.shift, LV.shifts, LObj.shift, entsOf, List.append_assoc, Function.comp_def] using this
open Go.Proofs
theorem isInt {k : IntKind} {p : PV} (h : TIs (.int k) p) : ∃ n, p = .int k n ∧ InKind k n := by
  cases h with | int h => exact ⟨_, rfl, h⟩
open Go.Proofs
def F52 (l : List Bk) : Option Bool :=
  (match places l with
  | none =>
    some false
  | some _ =>
    some true)
set_option maxRecDepth 100000 in
theorem c52 {l : List Bk} {r_ : Bool} (hr : F52 l = some r_) : LPure Try.prog 52 [.slice 5 (l.map blkP)] [.bool r_] := by
  refine LPure.start Try.func52 rfl rfl rfl rfl ?_
  unfold F52 at hr
  refine LW.seq ?_
  refine LW.region ?_
  refine LOps.st rfl rfl rfl (LOp.assign rfl rfl) ?_
  refine LOps.nil ?_
  refine thn_n ?_
  refine LW.seq ?_
  refine LW.region ?_
  refine LOps.st rfl rfl rfl (LOp.move rfl rfl) ?_
  rcases h_f1 : places l with _ | m_
  · -- way 0
    rw [h_f1] at hr
    simp only at hr
    refine LOps.st rfl rfl rfl (LOp.call rfl rfl rfl (by kernel_rfl) (c94N h_f1)) ?_
    refine LOps.st rfl rfl rfl (LOp.move rfl rfl) ?_
    refine LOps.st rfl rfl rfl (LOp.extract rfl rfl rfl) ?_
    refine LOps.st rfl rfl rfl (LOp.extract rfl rfl rfl) ?_
    refine LOps.st rfl rfl rfl (LOp.assign rfl rfl) ?_
    refine LOps.st rfl rfl rfl (LOp.assign rfl rfl) ?_
    refine LOps.nil ?_
    refine thn_n ?_
    refine LW.seq ?_
    refine LW.region ?_
    refine LOps.st rfl rfl rfl (LOp.move rfl rfl) ?_
    refine LOps.st rfl rfl rfl (LOp.assign rfl rfl) ?_
    refine LOps.nil ?_
    refine thn_n ?_
    refine LW.ret ?_
    obtain rfl := Option.some.inj hr
    refine finP_ret (.one (.tmp rfl)) ?_
    exact Conv.p
  · -- way 1
    rw [h_f1] at hr
    simp only at hr
    refine LOps.st rfl rfl rfl (LOp.call rfl rfl rfl (by kernel_rfl) (c94S h_f1 rfl rfl rfl)) ?_
    refine LOps.st rfl rfl rfl (LOp.move rfl rfl) ?_
    refine LOps.st rfl rfl rfl (LOp.extract rfl rfl rfl) ?_
    refine LOps.st rfl rfl rfl (LOp.extract rfl rfl rfl) ?_
    refine LOps.st rfl rfl rfl (LOp.assign rfl rfl) ?_
    refine LOps.st rfl rfl rfl (LOp.assign rfl rfl) ?_
    refine LOps.nil ?_
    refine thn_n ?_
    refine LW.seq ?_
    refine LW.region ?_
    refine LOps.st rfl rfl rfl (LOp.move rfl rfl) ?_
    refine LOps.st rfl rfl rfl (LOp.assign rfl rfl) ?_
    refine LOps.nil ?_
    refine thn_n ?_
    refine LW.ret ?_
    obtain rfl := Option.some.inj hr
    refine finP_ret (.one (.tmp rfl)) ?_
    exact Conv.p
structure F46_L1 where
  t13 : Int
  out : List ID
open Go.Proofs
theorem ob {α β : Type} {x : α} {f : α → Option β} : (some x).bind f = f x := by
  have h : ∀ o : Option α, o = some x → o.bind f = f x := by intro o e; subst e; rfl
  exact h _ rfl
theorem isListO {α : Type} {f : α → PV} {O : α → Prop} {T : TS} (hf : ∀ p, TIs T p → ∃ a, p = f a ∧ O a) : ∀ {xs : List PV}, (∀ x ∈ xs, TIs T x) → ∃ l : List α, xs = l.map f ∧ ∀ a ∈ l, O a
  | [], _ => ⟨[], rfl, fun a h => by simp at h⟩
  | x :: xs, h => by
    obtain ⟨a, rfl, ha⟩ := hf x (h x (.head _))
    obtain ⟨l, rfl, hl⟩ := isListO hf fun y hy => h y (.tail _ hy)
    exact ⟨a :: l, rfl, fun b hb => by
      cases hb with
      | head => exact ha
      | tail _ hb => exact hl b hb⟩
theorem isSliceO {α : Type} {f : α → PV} {O : α → Prop} {T : TS} {m : Nat} (hf : ∀ p, TIs T p → ∃ a, p = f a ∧ O a) {p : PV} (h : TIs (.slice m T) p) : ∃ l : List α, p = .slice m (l.map f) ∧ ∀ a ∈ l, O a := by
  cases h with
  | slice h =>
    obtain ⟨l, rfl, hl⟩ := isListO hf h
    exact ⟨l, rfl, hl⟩
/-- A block's numbers are of their kinds. -/
def BkOk (b : Bk) : Prop := InKind .i64 b.Slot ∧ InKind .i64 b.From ∧ InKind .u64 b.Parent.1 ∧ InKind .u64 b.Parent.2 ∧ InKind .u64 b.Salt
def VtOk (v : Vt) : Prop := InKind .i64 v.From ∧ InKind .i64 v.Slot ∧ InKind .u64 v.Head.1 ∧ InKind .u64 v.Head.2
def CfOk (c : Cf) : Prop := (∀ w ∈ c.W, InKind .i64 w) ∧ InKind .u64 c.Seed ∧ InKind .i64 c.Epoch ∧ InKind .i64 c.Num ∧ InKind .i64 c.Den
def VwOk (w : Vw) : Prop := (∀ b ∈ w.B, BkOk b) ∧ ∀ v ∈ w.V, VtOk v
theorem isBkO {p : PV} (h : TIs (.agg [.int .i64, .int .i64, .int .u64, .int .u64, .int .u64]) p) : ∃ c : Bk, p = blkP c ∧ BkOk c := by
  cases h with | agg h =>
  cases h with | cons a h => cases h with | cons b h => cases h with | cons c h => cases h with | cons d h => cases h with | cons e h =>
    cases h; cases a; cases b; cases c; cases d; cases e
    exact ⟨⟨_, _, (_, _), _⟩, rfl, by assumption, by assumption, by assumption, by assumption, by assumption⟩
theorem isVtO {p : PV} (h : TIs (.agg [.int .i64, .int .i64, .int .u64, .int .u64]) p) : ∃ c : Vt, p = vtP c ∧ VtOk c := by
  cases h with | agg h =>
  cases h with | cons a h => cases h with | cons b h => cases h with | cons c h => cases h with | cons d h =>
    cases h; cases a; cases b; cases c; cases d
    exact ⟨⟨_, _, (_, _)⟩, rfl, by assumption, by assumption, by assumption, by assumption⟩
theorem isIntO {k : IntKind} {f : Int → PV} (hf : ∀ n, f n = .int k n) {p : PV} (h : TIs (.int k) p) : ∃ n, p = f n ∧ InKind k n := by
  cases h with | int h => exact ⟨_, (hf _).symm, h⟩
theorem isInts {p : PV} (h : TIs (.slice 1 (.int .i64)) p) : ∃ l : List Int, p = .slice 1 (l.map i64P) ∧ ∀ a ∈ l, InKind .i64 a := isSliceO (fun _ h => isIntO (fun _ => rfl) h) h
theorem isCfO {p : PV} (h : TIs (.agg [.slice 1 (.int .i64), .int .u64, .int .i64, .int .i64, .int .i64]) p) : ∃ c : Cf, p = cfP c ∧ CfOk c := by
  cases h with | agg h =>
  cases h with | cons a h => cases h with | cons b h => cases h with | cons c h => cases h with | cons d h => cases h with | cons e h =>
    cases h
    obtain ⟨w, rfl, hw⟩ := isInts a
    cases b; cases c; cases d; cases e
    exact ⟨⟨w, _, _, _, _⟩, rfl, hw, by assumption, by assumption, by assumption, by assumption⟩
theorem isVwO {p : PV} (h : TIs (.agg [.slice 5 (.agg [.int .i64, .int .i64, .int .u64, .int .u64, .int .u64]), .slice 4 (.agg [.int .i64, .int .i64, .int .u64, .int .u64])]) p) : ∃ c : Vw, p = vwP c ∧ VwOk c := by
  cases h with | agg h =>
  cases h with | cons a h => cases h with | cons b h =>
    cases h
    obtain ⟨x, rfl, hx⟩ := isSliceO (fun _ h => isBkO h) a
    obtain ⟨y, rfl, hy⟩ := isSliceO (fun _ h => isVtO h) b
    exact ⟨⟨x, y⟩, rfl, hx, hy⟩
end Go.Mg
