/- What the logic needs to know of each type of the program. The program's structs as plain data, and how they lie in memory. The mixing functions. mix.Of. tree.Name, slices.Index, slices.Contains. tree.places. Plain facts of trees: what 'places' tells. tree.Chain. cursor.Move. Plain facts of chains and cursors. Plain laws of cursors. tree.May, Find, Slot, Kids. The examples of the laws of trees and cursors. Plain tools for printed functions: loops by what holds at their heads. What the laws hand over, with the bounds of its numbers. Plain facts of trees: what the program's Find, Slot, Kids tell. Plain facts of a beginning of blocks. Conditions: none. -/
import Derived.Test.YtlhocfhoocmfiaaL2
import Derived.Test.YtlhocfhoocmfiaaProg
namespace Go.Mg
open Go.Proofs
section
variable {w : World}
theorem at24 : arrTy Try.prog 24 = some (2, 1, false) := by kernel_rfl
theorem at115 : arrTy Try.prog 115 = some (10, 5, true) := by kernel_rfl
theorem bt24 : buildTy Try.prog 24 = some ([LV.p (PV.int IntKind.u64 0), LV.p (PV.int IntKind.u64 0)], [(0, 1), (1, 1)]) := by kernel_rfl
theorem bt42 : buildTy Try.prog 42 = some ([LV.p (PV.int IntKind.i64 0), LV.p (PV.int IntKind.i64 0), LV.p (PV.int IntKind.u64 0), LV.p (PV.int IntKind.u64 0), LV.p (PV.int IntKind.u64 0)], [(0, 1), (1, 1), (2, 2), (4, 1)]) := by kernel_rfl
theorem bt55 : buildTy Try.prog 55 = some ([LV.zs, LV.p (PV.int IntKind.u64 0), LV.p (PV.int IntKind.i64 0), LV.p (PV.int IntKind.i64 0), LV.p (PV.int IntKind.i64 0)], [(0, 1), (1, 1), (2, 1), (3, 1), (4, 1)]) := by kernel_rfl
theorem bt75 : buildTy Try.prog 75 = some ([LV.zs, LV.zs], [(0, 1), (1, 1)]) := by kernel_rfl
theorem bt82 : buildTy Try.prog 82 = some ([LV.p (PV.int IntKind.i64 0), LV.p (PV.int IntKind.i64 0), LV.p (PV.int IntKind.u64 0), LV.p (PV.int IntKind.u64 0)], [(0, 1), (1, 1), (2, 2)]) := by kernel_rfl
theorem bt120 : buildTy Try.prog 120 = some ([LV.p (PV.int IntKind.u64 0), LV.p (PV.int IntKind.i64 0), LV.p (PV.int IntKind.u32 0), LV.p (PV.int IntKind.i32 0), LV.p (PV.int IntKind.u32 0), LV.p (PV.int IntKind.i64 0), LV.p (PV.int IntKind.u64 0), LV.p (PV.int IntKind.u32 0), LV.p (PV.int IntKind.i32 0), LV.p (PV.int IntKind.u32 0), LV.p (PV.int IntKind.i64 0), LV.p (PV.int IntKind.u64 0), LV.p (PV.int IntKind.u32 0), LV.p (PV.int IntKind.i32 0), LV.p (PV.int IntKind.u32 0), LV.p (PV.int IntKind.i64 0), LV.p (PV.int IntKind.u64 0), LV.p (PV.int IntKind.u32 0), LV.p (PV.int IntKind.i32 0), LV.p (PV.int IntKind.u32 0), LV.p (PV.int IntKind.i64 0), LV.p (PV.int IntKind.u64 0), LV.p (PV.int IntKind.u32 0), LV.p (PV.int IntKind.i32 0), LV.p (PV.int IntKind.u32 0), LV.p (PV.int IntKind.i64 0), LV.p (PV.int IntKind.u64 0), LV.p (PV.int IntKind.u32 0), LV.p (PV.int IntKind.i32 0), LV.p (PV.int IntKind.u32 0), LV.p (PV.int IntKind.i64 0), LV.p (PV.int IntKind.u64 0), LV.p (PV.int IntKind.u32 0), LV.p (PV.int IntKind.i32 0), LV.p (PV.int IntKind.u32 0), LV.p (PV.int IntKind.i64 0), LV.p (PV.int IntKind.u64 0), LV.p (PV.int IntKind.u32 0), LV.p (PV.int IntKind.i32 0), LV.p (PV.int IntKind.u32 0), LV.p (PV.int IntKind.i64 0), LV.p (PV.int IntKind.u64 0), LV.p (PV.int IntKind.u32 0), LV.p (PV.int IntKind.i32 0), LV.p (PV.int IntKind.u32 0), LV.p (PV.int IntKind.i64 0), LV.p (PV.int IntKind.u64 0), LV.p (PV.int IntKind.u32 0), LV.p (PV.int IntKind.i32 0), LV.p (PV.int IntKind.u32 0), LV.p (PV.int IntKind.i64 0), LV.p (PV.int IntKind.u64 0), LV.p (PV.int IntKind.i64 0)], [(0, 1), (1, 1), (2, 50), (52, 1)]) := by kernel_rfl
theorem bt149 : buildTy Try.prog 149 = some ([LV.zs, LV.zs, LV.nilmap, LV.nilmap, LV.p (PV.int IntKind.i64 0), LV.p (PV.bool false)], [(0, 2), (2, 1), (3, 1), (4, 1), (5, 1)]) := by kernel_rfl
theorem eqt24 : eqTy Try.prog 24 2 = true := by kernel_rfl
theorem ft42_0 : fieldTy Try.prog 42 0 = some (0, 1, false) := by kernel_rfl
theorem ft42_1 : fieldTy Try.prog 42 1 = some (1, 1, false) := by kernel_rfl
theorem ft42_2 : fieldTy Try.prog 42 2 = some (2, 2, true) := by kernel_rfl
theorem ft42_3 : fieldTy Try.prog 42 3 = some (4, 1, false) := by kernel_rfl
theorem ft55_0 : fieldTy Try.prog 55 0 = some (0, 1, false) := by kernel_rfl
theorem ft55_1 : fieldTy Try.prog 55 1 = some (1, 1, false) := by kernel_rfl
theorem ft55_2 : fieldTy Try.prog 55 2 = some (2, 1, false) := by kernel_rfl
theorem ft55_3 : fieldTy Try.prog 55 3 = some (3, 1, false) := by kernel_rfl
theorem ft55_4 : fieldTy Try.prog 55 4 = some (4, 1, false) := by kernel_rfl
theorem ft75_0 : fieldTy Try.prog 75 0 = some (0, 1, false) := by kernel_rfl
theorem ft75_1 : fieldTy Try.prog 75 1 = some (1, 1, false) := by kernel_rfl
theorem ft82_0 : fieldTy Try.prog 82 0 = some (0, 1, false) := by kernel_rfl
theorem ft82_1 : fieldTy Try.prog 82 1 = some (1, 1, false) := by kernel_rfl
theorem ft82_2 : fieldTy Try.prog 82 2 = some (2, 2, true) := by kernel_rfl
theorem ft106_1 : fieldTy Try.prog 106 1 = some (0, 1, false) := by kernel_rfl
theorem ft108_0 : fieldTy Try.prog 108 0 = some (0, 1, false) := by kernel_rfl
theorem ft110_1 : fieldTy Try.prog 110 1 = some (0, 2, true) := by kernel_rfl
theorem ft112_1 : fieldTy Try.prog 112 1 = some (0, 1, true) := by kernel_rfl
theorem ft112_2 : fieldTy Try.prog 112 2 = some (1, 2, true) := by kernel_rfl
theorem ft114_0 : fieldTy Try.prog 114 0 = some (0, 3, true) := by kernel_rfl
theorem ft114_1 : fieldTy Try.prog 114 1 = some (3, 1, false) := by kernel_rfl
theorem ft114_2 : fieldTy Try.prog 114 2 = some (4, 1, false) := by kernel_rfl
theorem ft118_2 : fieldTy Try.prog 118 2 = some (0, 1, false) := by kernel_rfl
theorem ft120_0 : fieldTy Try.prog 120 0 = some (0, 1, false) := by kernel_rfl
theorem ft120_1 : fieldTy Try.prog 120 1 = some (1, 1, false) := by kernel_rfl
theorem ft120_2 : fieldTy Try.prog 120 2 = some (2, 50, true) := by kernel_rfl
theorem ft120_3 : fieldTy Try.prog 120 3 = some (52, 1, true) := by kernel_rfl
theorem ft149_0 : fieldTy Try.prog 149 0 = some (0, 2, true) := by kernel_rfl
theorem ft149_1 : fieldTy Try.prog 149 1 = some (2, 1, false) := by kernel_rfl
theorem ft149_2 : fieldTy Try.prog 149 2 = some (3, 1, false) := by kernel_rfl
theorem ft149_3 : fieldTy Try.prog 149 3 = some (4, 1, false) := by kernel_rfl
theorem ft149_4 : fieldTy Try.prog 149 4 = some (5, 1, false) := by kernel_rfl
theorem mt91 : mapTy Try.prog 91 = some (24, 3, 2, true) := by kernel_rfl
theorem mt147 : mapTy Try.prog 147 = some (82, 4, 4, true) := by kernel_rfl
theorem st27 : slTy Try.prog 27 = some (5, 40) := by kernel_rfl
theorem st49 : slTy Try.prog 49 = some (1, 8) := by kernel_rfl
theorem st68 : slTy Try.prog 68 = some (4, 32) := by kernel_rfl
theorem st98 : slTy Try.prog 98 = some (1, 8) := by kernel_rfl
theorem vt3 : varTy Try.prog 3 = some (1, false) := by kernel_rfl
theorem vt4 : varTy Try.prog 4 = some (1, false) := by kernel_rfl
theorem vt21 : varTy Try.prog 21 = some (1, false) := by kernel_rfl
theorem vt22 : varTy Try.prog 22 = some (1, false) := by kernel_rfl
theorem vt24 : varTy Try.prog 24 = some (2, true) := by kernel_rfl
theorem vt27 : varTy Try.prog 27 = some (1, false) := by kernel_rfl
theorem vt42 : varTy Try.prog 42 = some (5, true) := by kernel_rfl
theorem vt49 : varTy Try.prog 49 = some (1, false) := by kernel_rfl
theorem vt55 : varTy Try.prog 55 = some (5, true) := by kernel_rfl
theorem vt68 : varTy Try.prog 68 = some (1, false) := by kernel_rfl
theorem vt75 : varTy Try.prog 75 = some (2, true) := by kernel_rfl
theorem vt82 : varTy Try.prog 82 = some (4, true) := by kernel_rfl
theorem vt91 : varTy Try.prog 91 = some (1, false) := by kernel_rfl
theorem vt100 : varTy Try.prog 100 = some (1, false) := by kernel_rfl
theorem vt131 : varTy Try.prog 131 = some (1, false) := by kernel_rfl
theorem vt145 : varTy Try.prog 145 = some (1, false) := by kernel_rfl
theorem vt147 : varTy Try.prog 147 = some (1, false) := by kernel_rfl
theorem vt160 : varTy Try.prog 160 = some (1, false) := by kernel_rfl
theorem zl3 : zeroL Try.prog 3 = some (LV.p (PV.int IntKind.i64 0)) := by kernel_rfl
theorem zl4 : zeroL Try.prog 4 = some (LV.p (PV.bool false)) := by kernel_rfl
theorem zt24 : zeroTy Try.prog 24 = some [LV.p (PV.int IntKind.u64 0), LV.p (PV.int IntKind.u64 0)] := by kernel_rfl
theorem zt42 : zeroTy Try.prog 42 = some [LV.p (PV.int IntKind.i64 0), LV.p (PV.int IntKind.i64 0), LV.p (PV.int IntKind.u64 0), LV.p (PV.int IntKind.u64 0), LV.p (PV.int IntKind.u64 0)] := by kernel_rfl
theorem zt49 : zeroTy Try.prog 49 = some [LV.zs] := by kernel_rfl
theorem zt55 : zeroTy Try.prog 55 = some [LV.zs, LV.p (PV.int IntKind.u64 0), LV.p (PV.int IntKind.i64 0), LV.p (PV.int IntKind.i64 0), LV.p (PV.int IntKind.i64 0)] := by kernel_rfl
theorem zt75 : zeroTy Try.prog 75 = some [LV.zs, LV.zs] := by kernel_rfl
theorem zt82 : zeroTy Try.prog 82 = some [LV.p (PV.int IntKind.i64 0), LV.p (PV.int IntKind.i64 0), LV.p (PV.int IntKind.u64 0), LV.p (PV.int IntKind.u64 0)] := by kernel_rfl
theorem zt145 : zeroTy Try.prog 145 = some [LV.any] := by kernel_rfl
theorem zt160 : zeroTy Try.prog 160 = some [LV.any] := by kernel_rfl
end
abbrev ID := Int × Int
def idP (p : ID) : PV := .agg [.int .u64 p.1, .int .u64 p.2]
def wordP (x : Int) : PV := .int .u64 x
/-- A block. -/
structure Bk where
  Slot : Int
  From : Int
  Parent : ID
  Salt : Int
  deriving DecidableEq
def blkP (b : Bk) : PV := .agg [.int .i64 b.Slot, .int .i64 b.From, .int .u64 b.Parent.1, .int .u64 b.Parent.2, .int .u64 b.Salt]
/-- A vote. -/
structure Vt where
  From : Int
  Slot : Int
  Head : ID
  deriving DecidableEq
def vtP (v : Vt) : PV := .agg [.int .i64 v.From, .int .i64 v.Slot, .int .u64 v.Head.1, .int .u64 v.Head.2]
/-- What all agree on. -/
structure Cf where
  W : List Int
  Seed : Int
  Epoch : Int
  Num : Int
  Den : Int
def cfP (c : Cf) : PV := .agg [.slice 1 (c.W.map i64P), .int .u64 c.Seed, .int .i64 c.Epoch, .int .i64 c.Num, .int .i64 c.Den]
/-- A view. -/
structure Vw where
  B : List Bk
  V : List Vt
def vwP (v : Vw) : PV := .agg [.slice 5 (v.B.map blkP), .slice 4 (v.V.map vtP)]
/-- A cursor. -/
structure Cu where
  ID : Go.Mg.ID
  Slot : Int
  Revoked : Int
  deriving DecidableEq
/-- A block, and how much is on it. -/
structure Rk where
  n : Int
  id : Go.Mg.ID
theorem idKey : KeyOk idP 2 true := ⟨fun a b => by
  obtain ⟨x, y⟩ := a
  obtain ⟨z, w⟩ := b
  simp only [idP, keyEq, eqCells2, Bool.and_true, Prod.mk.injEq, Option.some.injEq]
  by_cases h1 : x = z <;> by_cases h2 : y = w <;> simp [h1, h2], fun _ => rfl⟩
theorem vtKey : KeyOk vtP 4 true := ⟨fun a b => by
  obtain ⟨a1, a2, a3⟩ := a
  obtain ⟨b1, b2, b3⟩ := b
  simp only [vtP, keyEq, eqCells, if_pos, Option.some.injEq, Vt.mk.injEq]
  rw [Bool.eq_iff_iff]
  obtain ⟨a3, a4⟩ := a3
  obtain ⟨b3, b4⟩ := b3
  simp, fun _ => rfl⟩
/-- What the program's comparisons tell. -/
theorem eqID (a b : ID) : ((a.1 == b.1) && ((a.2 == b.2) && true)) = decide (a = b) := by
  obtain ⟨x, y⟩ := a
  obtain ⟨z, w⟩ := b
  by_cases h1 : x = z <;> by_cases h2 : y = w <;> simp [h1, h2]
open Go.Proofs
/-- What mix.Word does. -/
def word (x : Int) : Int :=
  let a := IntKind.u64.wrap (bits .xor .u64 x (x.fdiv (2 ^ (min (Int.toNat 30) IntKind.u64.bits))) * 13787848793156543929)
  let b := IntKind.u64.wrap (bits .xor .u64 a (a.fdiv (2 ^ (min (Int.toNat 27) IntKind.u64.bits))) * 10723151780598845931)
  bits .xor .u64 b (b.fdiv (2 ^ (min (Int.toNat 31) IntKind.u64.bits)))
def step (h x : Int) : Int := word (IntKind.u64.wrap (bits .xor .u64 h x + 11400714819323198485))
/-- The complement of a word. -/
def inv (x : Int) : Int := bits .xor .u64 (if IntKind.u64.signed then -1 else IntKind.u64.max) x
set_option maxRecDepth 100000 in
theorem c146 {x : Int} : LPure Try.prog 146 [.int .u64 x] [.int .u64 (word x)] := by
  refine LPure.start Try.func146 rfl rfl rfl rfl ?_
  refine LW.seq ?_
  refine LW.region ?_
  refine LOps.st rfl rfl rfl (LOp.assign rfl rfl) ?_
  refine LOps.nil ?_
  refine thn_n ?_
  refine LW.seq ?_
  refine LW.region ?_
  refine LOps.st rfl rfl rfl (LOp.move rfl rfl) ?_
  refine LOps.st rfl rfl rfl (LOp.move rfl rfl) ?_
  refine LOps.st rfl rfl rfl (LOp.shr rfl rfl rfl (by decide)) ?_
  refine LOps.st rfl rfl rfl (LOp.bin rfl rfl rfl rfl) ?_
  refine LOps.st rfl rfl rfl (LOp.bin rfl rfl rfl rfl) ?_
  refine LOps.st rfl rfl rfl (LOp.assign rfl rfl) ?_
  refine LOps.nil ?_
  refine thn_n ?_
  refine LW.seq ?_
  refine LW.region ?_
  refine LOps.st rfl rfl rfl (LOp.move rfl rfl) ?_
  refine LOps.st rfl rfl rfl (LOp.move rfl rfl) ?_
  refine LOps.st rfl rfl rfl (LOp.shr rfl rfl rfl (by decide)) ?_
  refine LOps.st rfl rfl rfl (LOp.bin rfl rfl rfl rfl) ?_
  refine LOps.st rfl rfl rfl (LOp.bin rfl rfl rfl rfl) ?_
  refine LOps.st rfl rfl rfl (LOp.assign rfl rfl) ?_
  refine LOps.nil ?_
  refine thn_n ?_
  refine LW.seq ?_
  refine LW.region ?_
  refine LOps.st rfl rfl rfl (LOp.move rfl rfl) ?_
  refine LOps.st rfl rfl rfl (LOp.move rfl rfl) ?_
  refine LOps.st rfl rfl rfl (LOp.shr rfl rfl rfl (by decide)) ?_
  refine LOps.st rfl rfl rfl (LOp.bin rfl rfl rfl rfl) ?_
  refine LOps.st rfl rfl rfl (LOp.assign rfl rfl) ?_
  refine LOps.nil ?_
  refine thn_n ?_
  refine LW.ret ?_
  refine finP_ret (.one (.tmp rfl)) ?_
  exact Conv.p
set_option maxRecDepth 100000 in
theorem c108 {h x : Int} : LPure Try.prog 108 [.int .u64 h, .int .u64 x] [.int .u64 (step h x)] := by
  refine LPure.start Try.func108 rfl rfl rfl rfl ?_
  refine LW.seq ?_
  refine LW.region ?_
  refine LOps.st rfl rfl rfl (LOp.assign rfl rfl) ?_
  refine LOps.nil ?_
  refine thn_n ?_
  refine LW.seq ?_
  refine LW.region ?_
  refine LOps.st rfl rfl rfl (LOp.move rfl rfl) ?_
  refine LOps.st rfl rfl rfl (LOp.move rfl rfl) ?_
  refine LOps.st rfl rfl rfl (LOp.bin rfl rfl rfl rfl) ?_
  refine LOps.st rfl rfl rfl (LOp.bin rfl rfl rfl rfl) ?_
  refine LOps.st rfl rfl rfl (LOp.call rfl rfl rfl (by kernel_rfl) (LC.pure c146 (.cons Conv.p .nil))) ?_
  refine LOps.st rfl rfl rfl (LOp.assign rfl rfl) ?_
  refine LOps.nil ?_
  refine thn_n ?_
  refine LW.ret ?_
  refine finP_ret (.one (.tmp rfl)) ?_
  exact Conv.p
set_option maxRecDepth 100000 in
theorem c143 {x a b : Int} {id : Nat} {H H' : List LObj} (hH : nth H id = some (.box [.p (.int .u64 a), .p (.int .u64 b)])) (hH' : setC H id (.box [.p (.int .u64 (step a x)), .p (.int .u64 (step b (inv x)))]) = some H') : LC Try.prog 143 [.p (.int .u64 x), .ptr id 0] H (Is (.tup []) H') := by
  refine LC.start Try.func143 rfl rfl rfl ?_
  refine LW.drawLast (m := 10) (by kernel_rfl) (by kernel_rfl) (by kernel_rfl) ?_
  refine LO.st rfl rfl rfl (LOp.indexAddrA rfl rfl rfl at24 (by decide) (by decide)) ?_
  refine LO.st rfl rfl rfl (LOp.load rfl rfl hH vt22 rfl rfl) ?_
  refine LO.st rfl rfl rfl (LOp.move rfl rfl) ?_
  refine LO.st rfl rfl rfl (LOp.call rfl rfl rfl (by kernel_rfl) (LC.pure c108 (.cons Conv.p (.cons Conv.p .nil)))) ?_
  refine LO.st rfl rfl rfl (LOp.indexAddrA rfl rfl rfl at24 (by decide) (by decide)) ?_
  refine LO.st rfl rfl rfl (LOp.load rfl rfl hH vt22 rfl rfl) ?_
  refine LO.st rfl rfl rfl (LOp.move rfl rfl) ?_
  refine LO.st rfl rfl rfl (LOp.compl rfl rfl) ?_
  refine LO.st rfl rfl rfl (LOp.call rfl rfl rfl (by kernel_rfl) (LC.pure c108 (.cons Conv.p (.cons Conv.p .nil)))) ?_
  refine LO.st rfl rfl rfl (LOp.build rfl bt24 rfl rfl rfl) ?_
  refine LO.nil ?_
  refine LOps.st rfl rfl rfl (LOp.store rfl rfl rfl hH vt24 rfl rfl rfl hH') ?_
  refine LOps.nil ?_
  refine fin_end .none ?_
  exact ⟨rfl, rfl⟩
open Go.Proofs
/-- A word more. -/
def mixStep (p : Int × Int) (x : Int) : Int × Int := (step p.1 x, step p.2 (inv x))
/-- What mix.Of tells of words. -/
def mixOf (l : List Int) : Int × Int := mixStep (l.foldl mixStep (1, 2)) (IntKind.u64.wrap l.length)
set_option maxRecDepth 100000 in
theorem c99 {l : List Int} : LPure Try.prog 99 [.slice 1 (l.map wordP)] [idP (mixOf l)] := by
  refine LPure.start Try.func99 rfl rfl rfl rfl ?_
  refine LW.seq ?_
  refine LW.ok (t := 0) rfl (fun ok => ?_)
  have hlen := ok.len
  simp only [List.length_map, maxLen] at hlen
  refine LW.region ?_
  refine LOps.st rfl rfl rfl (LOp.alloc rfl zt24 rfl rfl) ?_
  refine LOps.nil ?_
  refine thn_n ?_
  refine LW.seq ?_
  refine LW.region ?_
  refine LOps.st rfl rfl rfl (LOp.build rfl bt24 rfl rfl rfl) ?_
  refine LOps.st rfl rfl rfl (LOp.alloc rfl zt24 rfl rfl) ?_
  refine LOps.st rfl rfl rfl (LOp.store rfl rfl rfl rfl vt24 rfl rfl rfl rfl) ?_
  refine LOps.nil ?_
  refine thn_n ?_
  refine LW.seq ?_
  refine LW.region ?_
  refine LOps.st rfl rfl rfl (LOp.makeFunc rfl rfl rfl) ?_
  refine LOps.st rfl rfl rfl (LOp.assign rfl rfl) ?_
  refine LOps.nil ?_
  refine thn_n ?_
  refine LW.seq ?_
  refine LW.seq ?_
  refine LW.region ?_
  refine LOps.st rfl rfl rfl (LOp.move rfl rfl) ?_
  refine LOps.st rfl rfl rfl (LOp.len rfl rfl (by kernel_rfl)) ?_
  refine LOps.st rfl rfl rfl (LOp.move rfl rfl) ?_
  refine LOps.nil ?_
  refine thn_n ?_
  refine LW.block ?_
  refine LW.loopOf (E := fun x : Nat × Int × Int => [(0, .p (.slice 1 (l.map wordP))), (2, .ptr 0 0), (3, .ptr 1 0), (4, .fn 143 [] [.ptr 1 0]), (9, .p (.slice 1 (l.map wordP))), (10, .p (.int .i64 (l.map wordP).length)), (11, .p (.int .i64 (x.1 : Nat)))]) (O := fun x => [.box [.p (.int .u64 0), .p (.int .u64 0)], .box [.p (.int .u64 x.2.1), .p (.int .u64 x.2.2)]]) (G := fun x => x.1 ≤ l.length ∧ x.2 = (l.take x.1).foldl mixStep (1, 2)) (meas := fun x => l.length - x.1) (0, 1, 2) (Weak.of 2 ⟨rfl, rfl, rfl, rfl, rfl, rfl, rfl, trivial⟩ rfl rfl rfl rfl) ⟨Nat.zero_le _, rfl⟩ (fun x hx => ?_)
  refine LW.seq ?_
  refine LW.region ?_
  refine LOps.st rfl rfl rfl (LOp.bin rfl rfl rfl rfl) ?_
  refine LOps.nil ?_
  refine thn_n ?_
  refine LW.seq ?_
  refine LW.cond rfl (fun g1 => ?_) (fun g1 => ?_)
  · -- g1 is True
    refine LW.skip ?_
    refine thn_n ?_
    refine LW.seq ?_
    refine LW.block ?_
    refine LW.seq ?_
    have hlt : x.1 < l.length := by simpa using g1
    obtain ⟨y, hy⟩ := list_get hlt
    refine LW.region ?_
    refine LOps.st rfl rfl rfl (LOp.indexAddr rfl rfl rfl st98 (by omega) (map_get hy) rfl) ?_
    refine LOps.st rfl rfl rfl (LOp.loadC rfl rfl rfl vt22 rfl rfl) ?_
    refine LOps.st rfl rfl rfl (LOp.assign rfl rfl) ?_
    refine LOps.nil ?_
    refine thn_n ?_
    refine LW.region ?_
    refine LOps.st rfl rfl rfl (LOp.move rfl rfl) ?_
    refine LOps.st rfl rfl rfl (LOp.move rfl rfl) ?_
    refine LOps.st rfl rfl rfl (LOp.call rfl rfl rfl (by kernel_rfl) (c143 (id := 1) rfl rfl)) ?_
    refine LOps.nil ?_
    refine inBlk_n ?_
    refine thn_n ?_
    refine LW.region ?_
    refine LOps.st rfl rfl rfl (LOp.isEq (y := .p (.int .i64 ((x.1 + 1 : Nat) : Int))) (LOp.bin rfl rfl rfl rfl) (by rw [wrapI (by omega) (by omega)]; rfl)) ?_
    refine LOps.st rfl rfl rfl (LOp.move rfl rfl) ?_
    refine LOps.nil ?_
    refine thn_n ?_
    refine ⟨(x.1 + 1, mixStep x.2 y), ?_, ?_, Weak.of 2 ⟨rfl, rfl, rfl, rfl, rfl, rfl, rfl, trivial⟩ rfl rfl rfl rfl⟩
    · simp only; omega
    · refine ⟨hlt, ?_⟩; rw [List.take_add_one, hy, List.foldl_append, ← hx.2]; rfl
  · -- g1 is False
    refine LW.exit ?_
    refine thn_e ?_
    refine thn_e ?_
    refine inBlk_self ?_
    refine thn_n ?_
    refine LW.seq ?_
    have hnlt : ¬ x.1 < l.length := by simpa using g1
    have hend : x.1 = l.length := by omega
    have hfold : x.2 = l.foldl mixStep (1, 2) := by rw [hx.2, hend, List.take_length]
    refine LW.region ?_
    refine LOps.st rfl rfl rfl (LOp.move rfl rfl) ?_
    refine LOps.st rfl rfl rfl (LOp.move rfl rfl) ?_
    refine LOps.st rfl rfl rfl (LOp.len rfl rfl (by kernel_rfl)) ?_
    refine LOps.st rfl rfl rfl (LOp.convert (k' := .u64) rfl rfl (by kernel_rfl)) ?_
    refine LOps.st rfl rfl rfl (LOp.call rfl rfl rfl (by kernel_rfl) (c143 (id := 1) rfl rfl)) ?_
    refine LOps.nil ?_
    refine thn_n ?_
    refine LW.seq ?_
    refine LW.region ?_
    refine LOps.st rfl rfl rfl (LOp.load rfl rfl rfl vt24 rfl rfl) ?_
    refine LOps.st rfl rfl rfl (LOp.store rfl rfl rfl rfl vt24 rfl rfl rfl rfl) ?_
    refine LOps.nil ?_
    refine thn_n ?_
    refine LW.ret ?_
    refine finP_ret (.one (.cellAgg rfl rfl (by kernel_rfl) rfl)) ?_
    refine Conv.pe ?_
    simp only [List.length_map, idP, mixOf, ← hfold]
    rfl
open Go.Proofs
def nameWords (b : Bk) : List Int := [1, IntKind.u64.wrap b.Slot, IntKind.u64.wrap b.From, b.Parent.1, b.Parent.2, b.Salt]
/-- A block's name. -/
def nm (b : Bk) : ID := mixOf (nameWords b)
/-- Where one is in a list, or -1. -/
def indexOf (l : List ID) (v : ID) : Int := match l.findIdx? (fun x => decide (v = x)) with | some i => (i : Nat) | none => -1
theorem indexOf_at {l : List ID} {v : ID} {i : Nat} (h : l[i]? = some v) (hno : ∀ j, j < i → l[j]? ≠ some v) : indexOf l v = i := by
  have hi := (List.getElem?_eq_some_iff.1 h).1
  have : l.findIdx? (fun x => decide (v = x)) = some i := by
    rw [List.findIdx?_eq_some_iff_getElem]
    refine ⟨hi, by simp [(List.getElem?_eq_some_iff.1 h).2], fun j hj => ?_⟩
    have := hno j hj
    rw [List.getElem?_eq_getElem (by omega)] at this
    simpa using fun e => this (by rw [e])
  simp [indexOf, this]
theorem indexOf_none {l : List ID} {v : ID} (hno : ∀ j, j < l.length → l[j]? ≠ some v) : indexOf l v = -1 := by
  have : l.findIdx? (fun x => decide (v = x)) = none := by
    rw [List.findIdx?_eq_none_iff]
    intro x hx
    obtain ⟨j, hj, rfl⟩ := List.mem_iff_getElem.1 hx
    have := hno j hj
    rw [List.getElem?_eq_getElem hj] at this
    simpa using fun e => this (by rw [e])
  simp [indexOf, this]
set_option maxRecDepth 100000 in
theorem c50 {b : Bk} : LPure Try.prog 50 [blkP b] [idP (nm b)] := by
  refine LPure.start Try.func50 rfl rfl rfl rfl ?_
  refine LW.seq ?_
  refine LW.region ?_
  refine LOps.st rfl rfl rfl (LOp.box rfl rfl rfl rfl rfl) ?_
  refine LOps.st rfl rfl rfl (LOp.alloc rfl zt24 rfl rfl) ?_
  refine LOps.nil ?_
  refine thn_n ?_
  refine LW.seq ?_
  refine LW.region ?_
  refine LOps.st rfl rfl rfl (LOp.fieldAddr rfl rfl ft42_0) ?_
  refine LOps.st rfl rfl rfl (LOp.load rfl rfl rfl vt3 rfl rfl) ?_
  refine LOps.st rfl rfl rfl (LOp.convert (k' := .u64) rfl rfl (by kernel_rfl)) ?_
  refine LOps.st rfl rfl rfl (LOp.fieldAddr rfl rfl ft42_1) ?_
  refine LOps.st rfl rfl rfl (LOp.load rfl rfl rfl vt3 rfl rfl) ?_
  refine LOps.st rfl rfl rfl (LOp.convert (k' := .u64) rfl rfl (by kernel_rfl)) ?_
  refine LOps.st rfl rfl rfl (LOp.fieldAddr rfl rfl ft42_2) ?_
  refine LOps.st rfl rfl rfl (LOp.indexAddrA rfl rfl rfl at24 (by decide) (by decide)) ?_
  refine LOps.st rfl rfl rfl (LOp.load rfl rfl rfl vt22 rfl rfl) ?_
  refine LOps.st rfl rfl rfl (LOp.fieldAddr rfl rfl ft42_2) ?_
  refine LOps.st rfl rfl rfl (LOp.indexAddrA rfl rfl rfl at24 (by decide) (by decide)) ?_
  refine LOps.st rfl rfl rfl (LOp.load rfl rfl rfl vt22 rfl rfl) ?_
  refine LOps.st rfl rfl rfl (LOp.fieldAddr rfl rfl ft42_3) ?_
  refine LOps.st rfl rfl rfl (LOp.load rfl rfl rfl vt22 rfl rfl) ?_
  refine LOps.st rfl rfl rfl (LOp.buildSlice rfl st98 rfl rfl rfl rfl rfl) ?_
  refine LOps.st rfl rfl rfl (LOp.call rfl rfl rfl (by kernel_rfl) (LC.pure (c99 (l := nameWords b)) (.cons Conv.p .nil))) ?_
  refine LOps.st rfl rfl rfl (LOp.store rfl rfl rfl rfl vt24 rfl rfl rfl rfl) ?_
  refine LOps.nil ?_
  refine thn_n ?_
  refine LW.ret ?_
  refine finP_ret (.one (.cellAgg rfl rfl (by kernel_rfl) rfl)) ?_
  exact Conv.p
open Go.Proofs
/-- The slot of the block at i; -1 is the beginning. -/
def slotIx (l : List Bk) (i : Int) : Int := if i = -1 then 0 else match l[i.toNat]? with
  | some b => b.Slot
  | none => 0
abbrev ixV : Int → LV := fun v => .p (.int .i64 v)
/-- Where each block is, by its name, if blocks may be. -/
def placesGo (l : List Bk) : List Bk → Nat → List (ID × Int) → Option (List (ID × Int))
  | [], _, m => some m
  | b :: r, i, m => match findE m b.Parent with
    | none => none
    | some p => if b.Slot ≤ slotIx l p then none else match findE m (nm b) with
      | some _ => none
      | none => placesGo l r (i + 1) (m ++ [(nm b, (i : Int))])
def places (l : List Bk) : Option (List (ID × Int)) := placesGo l l 0 [((0, 0), -1)]
theorem placesGo_at {l : List Bk} {i : Nat} {y : Bk} (hy : l[i]? = some y) (m : List (ID × Int)) : placesGo l (l.drop i) i m = match findE m y.Parent with
    | none => none
    | some p => if y.Slot ≤ slotIx l p then none else match findE m (nm y) with
      | some _ => none
      | none => placesGo l (l.drop (i + 1)) (i + 1) (m ++ [(nm y, (i : Int))]) := by
  obtain ⟨hi, rfl⟩ := List.getElem?_eq_some_iff.1 hy
  rw [List.drop_eq_getElem_cons hi]
  rfl
set_option maxRecDepth 100000 in
theorem c142 {l : List Bk} {i : Int} {id : Nat} {H : List LObj} (hH : nth H id = some (.box [.p (.slice 5 (l.map blkP))])) (hi : i = -1 ∨ 0 ≤ i ∧ i < l.length) :
    LC Try.prog 142 [.p (.int .i64 i), .ptr id 0] H (Is (.p (.int .i64 (slotIx l i))) H) := by
  refine LC.start Try.func142 rfl rfl rfl ?_
  refine LW.seq ?_
  refine LW.region ?_
  refine LOps.st rfl rfl rfl (LOp.assign rfl rfl) ?_
  refine LOps.nil ?_
  refine thn_n ?_
  refine LW.seq ?_
  refine LW.seq ?_
  refine LW.region ?_
  refine LOps.st rfl rfl rfl (LOp.move rfl rfl) ?_
  refine LOps.st rfl rfl rfl (LOp.bin rfl rfl rfl rfl) ?_
  refine LOps.nil ?_
  refine thn_n ?_
  refine LW.cond rfl (fun g1 => ?_) (fun g1 => ?_)
  · -- g1 is True
    refine LW.seq ?_
    have he : i = -1 := by simpa using g1
    refine LW.region ?_
    refine LOps.st rfl rfl rfl (LOp.assign rfl rfl) ?_
    refine LOps.nil ?_
    refine thn_n ?_
    refine LW.ret ?_
    refine thn_r ?_
    refine fin_ret (.one (.tmp rfl)) ?_
    exact ⟨by simp [slotIx, he], rfl⟩
  · -- g1 is False
    refine LW.skip ?_
    refine thn_n ?_
    refine LW.seq ?_
    have hne : i ≠ -1 := by simpa using g1
    obtain ⟨y, hy⟩ := list_get (l := l) (i := i.toNat) (by omega)
    have hiy : (l.map blkP)[i.toNat]? = some (blkP y) := by simp [hy]
    refine LW.region ?_
    refine LOps.st rfl rfl rfl (LOp.load rfl rfl hH vt27 rfl rfl) ?_
    refine LOps.st rfl rfl rfl (LOp.move rfl rfl) ?_
    refine LOps.st rfl rfl rfl (LOp.indexAddr rfl rfl rfl st27 (by omega) hiy rfl) ?_
    refine LOps.st rfl rfl rfl (LOp.fieldAddrC rfl rfl ft42_0 rfl) ?_
    refine LOps.st rfl rfl rfl (LOp.loadC rfl rfl rfl vt3 rfl rfl) ?_
    refine LOps.st rfl rfl rfl (LOp.assign rfl rfl) ?_
    refine LOps.nil ?_
    refine thn_n ?_
    refine LW.ret ?_
    refine fin_ret (.one (.tmp rfl)) ?_
    exact ⟨by simp [slotIx, hne, hy], rfl⟩
set_option maxRecDepth 100000 in
theorem c94 {l : List Bk} : LC Try.prog 94 [.p (.slice 5 (l.map blkP))] [] fun x H =>
    (∃ m, places l = some m ∧ x = .tup [.map 1, .p (.bool true)] ∧ H = [.box [.p (.slice 5 (l.map blkP))], .map (entsOf idP ixV m)]) ∨ (places l = none ∧ x = .tup [.nilmap, .p (.bool false)] ∧ H = []) := by
  refine LC.start Try.func94 rfl rfl rfl ?_
  refine LW.seq ?_
  refine LW.ok (t := 0) rfl (fun ok => ?_)
  have hlen := ok.len
  simp only [List.length_map, maxLen] at hlen
  refine LW.region ?_
  refine LOps.st rfl rfl rfl (LOp.box rfl rfl rfl rfl rfl) ?_
  refine LOps.st rfl rfl rfl (LOp.assign rfl rfl) ?_
  refine LOps.st rfl rfl rfl (LOp.assign rfl rfl) ?_
  refine LOps.nil ?_
  refine thn_n ?_
  refine LW.seq ?_
  refine LW.region ?_
  refine LOps.st rfl rfl rfl (LOp.makeMap rfl rfl rfl) ?_
  refine LOps.st rfl rfl rfl (LOp.build rfl bt24 rfl rfl rfl) ?_
  refine LOps.st rfl rfl rfl (LOp.setNew (f := idP) (g := ixV) (m := []) (a := (0, 0)) (v := -1) idKey rfl (.inr rfl) rfl rfl rfl rfl rfl mt91 rfl) ?_
  refine LOps.st rfl rfl rfl (LOp.move rfl rfl) ?_
  refine LOps.st rfl rfl rfl (LOp.assign rfl rfl) ?_
  refine LOps.nil ?_
  refine thn_n ?_
  refine LW.seq ?_
  refine LW.region ?_
  refine LOps.st rfl rfl rfl (LOp.makeFunc rfl rfl rfl) ?_
  refine LOps.st rfl rfl rfl (LOp.assign rfl rfl) ?_
  refine LOps.nil ?_
  refine thn_n ?_
  refine LW.seq ?_
  refine LW.seq ?_
  refine LW.region ?_
  refine LOps.st rfl rfl rfl (LOp.load rfl rfl rfl vt27 rfl rfl) ?_
  refine LOps.st rfl rfl rfl (LOp.len rfl rfl (by kernel_rfl)) ?_
  refine LOps.st rfl rfl rfl (LOp.move rfl rfl) ?_
  refine LOps.nil ?_
  refine thn_n ?_
  refine LW.block ?_
  refine LW.loopOf (E := fun x : Nat × List (ID × Int) => [(1, .ptr 0 0), (4, .map 1), (5, .fn 142 [] [.ptr 0 0]), (17, .p (.slice 5 (l.map blkP))), (18, .p (.int .i64 (l.map blkP).length)), (19, .p (.int .i64 (x.1 : Nat)))]) (O := fun x => [.box [.p (.slice 5 (l.map blkP))], .map (entsOf idP ixV x.2)]) (G := fun x => x.1 ≤ l.length ∧ placesGo l (l.drop x.1) x.1 x.2 = places l ∧ ∀ k v, findE x.2 k = some v → v = -1 ∨ 0 ≤ v ∧ v < l.length) (meas := fun x => l.length - x.1) (0, [((0, 0), -1)]) (Weak.of 2 ⟨rfl, rfl, rfl, rfl, rfl, rfl, trivial⟩ rfl rfl rfl (lowObjs_cons rfl (lowObjs_cons (entsLow (fun _ => rfl) _) rfl))) ⟨Nat.zero_le _, rfl, fun k v h => by unfold findE findE at h; split at h <;> cases h; exact .inl rfl⟩ (fun x hx => ?_)
  refine LW.seq ?_
  refine LW.region ?_
  refine LOps.st rfl rfl rfl (LOp.bin rfl rfl rfl rfl) ?_
  refine LOps.nil ?_
  refine thn_n ?_
  refine LW.seq ?_
  refine LW.cond rfl (fun g1 => ?_) (fun g1 => ?_)
  · -- g1 is True
    refine LW.skip ?_
    refine thn_n ?_
    refine LW.seq ?_
    refine LW.block ?_
    refine LW.seq ?_
    have hlt : x.1 < l.length := by simpa using g1
    obtain ⟨y, hy⟩ := list_get hlt
    refine LW.region ?_
    refine LOps.st rfl rfl rfl (LOp.move rfl rfl) ?_
    refine LOps.st rfl rfl rfl (LOp.indexAddr rfl rfl rfl st27 (by omega) (map_get hy) rfl) ?_
    refine LOps.st rfl rfl rfl (LOp.loadC rfl rfl rfl vt42 rfl rfl) ?_
    refine LOps.st rfl rfl rfl (LOp.alloc rfl zt42 rfl rfl) ?_
    refine LOps.st rfl rfl rfl (LOp.assign rfl rfl) ?_
    refine LOps.st rfl rfl rfl (LOp.store rfl rfl rfl rfl vt42 rfl rfl rfl rfl) ?_
    refine LOps.nil ?_
    refine thn_n ?_
    refine LW.seq ?_
    refine LW.region ?_
    refine LOps.st rfl rfl rfl (LOp.move rfl rfl) ?_
    refine LOps.st rfl rfl rfl (LOp.fieldAddr rfl rfl ft42_2) ?_
    refine LOps.st rfl rfl rfl (LOp.load rfl rfl rfl vt24 rfl rfl) ?_
    rcases hp : findE x.2 y.Parent with _ | p
    · -- case 0
      refine LOps.st rfl rfl rfl ((LOp.getMiss idKey hp rfl rfl rfl rfl mt91 zl3 rfl)) ?_
      refine LOps.st rfl rfl rfl (LOp.move rfl rfl) ?_
      refine LOps.st rfl rfl rfl (LOp.extract rfl rfl rfl) ?_
      refine LOps.st rfl rfl rfl (LOp.extract rfl rfl rfl) ?_
      refine LOps.st rfl rfl rfl (LOp.assign rfl rfl) ?_
      refine LOps.st rfl rfl rfl (LOp.assign rfl rfl) ?_
      refine LOps.nil ?_
      refine thn_n ?_
      refine LW.seq ?_
      refine LW.seq ?_
      refine LW.draw (by kernel_rfl) (by kernel_rfl) ?_
      refine LO.st rfl rfl rfl (LOp.move rfl rfl) ?_
      refine LO.st rfl rfl rfl (LOp.not rfl rfl) ?_
      refine LO.st rfl rfl rfl (LOp.move rfl rfl) ?_
      refine LO.sk rfl rfl rfl rfl rfl rfl ?_
      refine LO.sk rfl rfl rfl rfl rfl rfl ?_
      refine LO.sk rfl rfl rfl rfl rfl rfl ?_
      refine LO.sk rfl rfl rfl rfl rfl rfl ?_
      refine LO.sk rfl rfl rfl rfl rfl rfl ?_
      refine LO.sk rfl rfl rfl rfl rfl rfl ?_
      refine LO.st rfl rfl rfl (LOp.pickT rfl rfl rfl) ?_
      refine LO.nil ?_
      refine thn_n ?_
      refine LW.condT rfl ?_
      refine LW.seq ?_
      refine LW.region ?_
      refine LOps.st rfl rfl rfl (LOp.assign rfl rfl) ?_
      refine LOps.st rfl rfl rfl (LOp.assign rfl rfl) ?_
      refine LOps.nil ?_
      refine thn_n ?_
      refine LW.ret ?_
      refine thn_r ?_
      refine inBlk_r ?_
      refine thn_r ?_
      refine thn_r ?_
      refine inBlk_r ?_
      refine thn_r ?_
      refine fin_retW (env' := [(2, .nilmap), (3, .p (.bool false))]) (H' := []) (Weak.of 0 ⟨rfl, rfl, trivial⟩ rfl rfl rfl rfl) (.two (.tmp rfl) (.tmp rfl)) (.inr ⟨?_, rfl, rfl⟩)
      rw [← hx.2.1, placesGo_at hy]
      first | (simp only [hp]; done) | (simp only [hp]; rw [if_pos (of_decide_eq_true g2)]; done) | (simp only [hp, hq]; split <;> rfl)
    · -- case 1
      refine LOps.st rfl rfl rfl ((LOp.getHit idKey hp rfl rfl rfl rfl mt91 rfl)) ?_
      refine LOps.st rfl rfl rfl (LOp.move rfl rfl) ?_
      refine LOps.st rfl rfl rfl (LOp.extract rfl rfl rfl) ?_
      refine LOps.st rfl rfl rfl (LOp.extract rfl rfl rfl) ?_
      refine LOps.st rfl rfl rfl (LOp.assign rfl rfl) ?_
      refine LOps.st rfl rfl rfl (LOp.assign rfl rfl) ?_
      refine LOps.nil ?_
      refine thn_n ?_
      refine LW.seq ?_
      refine LW.seq ?_
      refine LW.draw (by kernel_rfl) (by kernel_rfl) ?_
      refine LO.st rfl rfl rfl (LOp.move rfl rfl) ?_
      refine LO.st rfl rfl rfl (LOp.not rfl rfl) ?_
      refine LO.st rfl rfl rfl (LOp.move rfl rfl) ?_
      refine LO.gd rfl rfl rfl rfl rfl (LOp.fieldAddr rfl rfl ft42_0) ?_
      refine LO.gd rfl rfl rfl rfl rfl (LOp.load rfl rfl rfl vt3 rfl rfl) ?_
      refine LO.gd rfl rfl rfl rfl rfl (LOp.move rfl rfl) ?_
      refine LO.gd rfl rfl rfl rfl rfl (LOp.move rfl rfl) ?_
      refine LO.gd rfl rfl rfl rfl rfl (LOp.call rfl rfl rfl (by kernel_rfl) (c142 (id := 0) rfl (hx.2.2 _ _ hp))) ?_
      refine LO.gd rfl rfl rfl rfl rfl (LOp.bin rfl rfl rfl rfl) ?_
      refine LO.st rfl rfl rfl (LOp.pickF rfl rfl rfl) ?_
      refine LO.nil ?_
      refine thn_n ?_
      refine LW.cond rfl (fun g2 => ?_) (fun g2 => ?_)
      · -- g2 is True
        refine LW.seq ?_
        refine LW.region ?_
        refine LOps.st rfl rfl rfl (LOp.assign rfl rfl) ?_
        refine LOps.st rfl rfl rfl (LOp.assign rfl rfl) ?_
        refine LOps.nil ?_
        refine thn_n ?_
        refine LW.ret ?_
        refine thn_r ?_
        refine inBlk_r ?_
        refine thn_r ?_
        refine thn_r ?_
        refine inBlk_r ?_
        refine thn_r ?_
        refine fin_retW (env' := [(2, .nilmap), (3, .p (.bool false))]) (H' := []) (Weak.of 0 ⟨rfl, rfl, trivial⟩ rfl rfl rfl rfl) (.two (.tmp rfl) (.tmp rfl)) (.inr ⟨?_, rfl, rfl⟩)
        rw [← hx.2.1, placesGo_at hy]
        first | (simp only [hp]; done) | (simp only [hp]; rw [if_pos (of_decide_eq_true g2)]; done) | (simp only [hp, hq]; split <;> rfl)
      · -- g2 is False
        refine LW.skip ?_
        refine thn_n ?_
        refine LW.seq ?_
        refine LW.region ?_
        refine LOps.st rfl rfl rfl (LOp.load rfl rfl rfl vt42 rfl rfl) ?_
        refine LOps.st rfl rfl rfl (LOp.call rfl rfl rfl (by kernel_rfl) (LC.pure (c50 (b := y)) (.cons Conv.p .nil))) ?_
        refine LOps.st rfl rfl rfl (LOp.alloc rfl zt24 rfl rfl) ?_
        refine LOps.st rfl rfl rfl (LOp.store rfl rfl rfl rfl vt24 rfl rfl rfl rfl) ?_
        refine LOps.nil ?_
        refine thn_n ?_
        refine LW.seq ?_
        refine LW.seq ?_
        refine LW.region ?_
        refine LOps.st rfl rfl rfl (LOp.move rfl rfl) ?_
        refine LOps.st rfl rfl rfl (LOp.load rfl rfl rfl vt24 rfl rfl) ?_
        rcases hq : findE x.2 (nm y) with _ | q
        · -- case 0
          refine LOps.st rfl rfl rfl ((LOp.getMiss idKey hq rfl rfl rfl rfl mt91 zl3 rfl)) ?_
          refine LOps.st rfl rfl rfl (LOp.move rfl rfl) ?_
          refine LOps.st rfl rfl rfl (LOp.extract rfl rfl rfl) ?_
          refine LOps.st rfl rfl rfl (LOp.extract rfl rfl rfl) ?_
          refine LOps.st rfl rfl rfl (LOp.assign rfl rfl) ?_
          refine LOps.st rfl rfl rfl (LOp.assign rfl rfl) ?_
          refine LOps.nil ?_
          refine thn_n ?_
          refine LW.seq ?_
          refine LW.region ?_
          refine LOps.st rfl rfl rfl (LOp.move rfl rfl) ?_
          refine LOps.nil ?_
          refine thn_n ?_
          refine LW.condF rfl ?_
          refine LW.skip ?_
          refine thn_n ?_
          refine LW.region ?_
          refine LOps.st rfl rfl rfl (LOp.move rfl rfl) ?_
          refine LOps.st rfl rfl rfl (LOp.load rfl rfl rfl vt24 rfl rfl) ?_
          refine LOps.st rfl rfl rfl (LOp.move rfl rfl) ?_
          refine LOps.st rfl rfl rfl (LOp.setNew (f := idP) (g := ixV) (m := x.2) (a := nm y) (v := ((x.1 : Nat) : Int)) idKey hq (.inl rfl) rfl rfl rfl rfl rfl mt91 rfl) ?_
          refine LOps.nil ?_
          refine inBlk_n ?_
          refine thn_n ?_
          refine LW.region ?_
          refine LOps.st rfl rfl rfl (LOp.isEq (y := .p (.int .i64 ((x.1 + 1 : Nat) : Int))) (LOp.bin rfl rfl rfl rfl) (by rw [wrapI (by omega) (by omega)]; rfl)) ?_
          refine LOps.st rfl rfl rfl (LOp.move rfl rfl) ?_
          refine LOps.nil ?_
          refine thn_n ?_
          refine ⟨(x.1 + 1, x.2 ++ [(nm y, ((x.1 : Nat) : Int))]), ?_, ?_, Weak.of 2 ⟨rfl, rfl, rfl, rfl, rfl, rfl, trivial⟩ rfl rfl rfl (lowObjs_cons rfl (lowObjs_cons (entsLow (fun _ => rfl) _) rfl))⟩
          · simp only; omega
          · refine ⟨hlt, ?_, fun k v h => ?_⟩
            · rw [← hx.2.1, placesGo_at hy]; simp only [hp, hq]; rw [if_neg (of_decide_eq_false g2)]
            · rw [findE_append] at h
              rcases hk : findE x.2 k with _ | u
              · rw [hk] at h; simp only [Option.none_or] at h; split at h <;> cases h; omega
              · rw [hk] at h; cases h; exact hx.2.2 k _ hk
        · -- case 1
          refine LOps.st rfl rfl rfl ((LOp.getHit idKey hq rfl rfl rfl rfl mt91 rfl)) ?_
          refine LOps.st rfl rfl rfl (LOp.move rfl rfl) ?_
          refine LOps.st rfl rfl rfl (LOp.extract rfl rfl rfl) ?_
          refine LOps.st rfl rfl rfl (LOp.extract rfl rfl rfl) ?_
          refine LOps.st rfl rfl rfl (LOp.assign rfl rfl) ?_
          refine LOps.st rfl rfl rfl (LOp.assign rfl rfl) ?_
          refine LOps.nil ?_
          refine thn_n ?_
          refine LW.seq ?_
          refine LW.region ?_
          refine LOps.st rfl rfl rfl (LOp.move rfl rfl) ?_
          refine LOps.nil ?_
          refine thn_n ?_
          refine LW.condT rfl ?_
          refine LW.seq ?_
          refine LW.region ?_
          refine LOps.st rfl rfl rfl (LOp.assign rfl rfl) ?_
          refine LOps.st rfl rfl rfl (LOp.assign rfl rfl) ?_
          refine LOps.nil ?_
          refine thn_n ?_
          refine LW.ret ?_
          refine thn_r ?_
          refine inBlk_r ?_
          refine thn_r ?_
          refine thn_r ?_
          refine inBlk_r ?_
          refine thn_r ?_
          refine fin_retW (env' := [(2, .nilmap), (3, .p (.bool false))]) (H' := []) (Weak.of 0 ⟨rfl, rfl, trivial⟩ rfl rfl rfl rfl) (.two (.tmp rfl) (.tmp rfl)) (.inr ⟨?_, rfl, rfl⟩)
          rw [← hx.2.1, placesGo_at hy]
          first | (simp only [hp]; done) | (simp only [hp]; rw [if_pos (of_decide_eq_true g2)]; done) | (simp only [hp, hq]; split <;> rfl)
  · -- g1 is False
    refine LW.exit ?_
    refine thn_e ?_
    refine thn_e ?_
    refine inBlk_self ?_
    refine thn_n ?_
    refine LW.seq ?_
    have hnlt : ¬ x.1 < l.length := by simpa using g1
    have hend : x.1 = l.length := by omega
    refine LW.region ?_
    refine LOps.st rfl rfl rfl (LOp.move rfl rfl) ?_
    refine LOps.st rfl rfl rfl (LOp.assign rfl rfl) ?_
    refine LOps.st rfl rfl rfl (LOp.assign rfl rfl) ?_
    refine LOps.nil ?_
    refine thn_n ?_
    refine LW.ret ?_
    refine fin_retW (env' := [(2, .map 1), (3, .p (.bool true))]) (H' := [.box [.p (.slice 5 (l.map blkP))], .map (entsOf idP ixV x.2)]) (Weak.of 2 ⟨rfl, rfl, trivial⟩ rfl rfl rfl (lowObjs_cons rfl (lowObjs_cons (entsLow (fun _ => rfl) _) rfl))) (.two (.tmp rfl) (.tmp rfl)) (.inl ⟨x.2, ?_, rfl, rfl⟩)
    rw [← hx.2.1, hend, List.drop_length]; rfl
/-- What holds of a map of places. -/
structure PInv (l : List Bk) (m : List (ID × Int)) (n : Nat) : Prop where
  zero : findE m (0, 0) = some (-1)
  known : ∀ k i, findE m k = some i → (i = -1 ∧ k = (0, 0)) ∨ ∃ b p, 0 ≤ i ∧ i < n ∧ l[i.toNat]? = some b ∧ nm b = k ∧ findE m b.Parent = some p ∧ p < i ∧ -1 ≤ p ∧ slotIx l p < b.Slot
  names : ∀ i b, i < n → l[i]? = some b → findE m (nm b) = some (i : Int)
theorem PInv.step {l : List Bk} {m : List (ID × Int)} {n : Nat} {y : Bk} {p : Int} (h : PInv l m n) (hy : l[n]? = some y) (hp : findE m y.Parent = some p) (hs : ¬ y.Slot ≤ slotIx l p) (hq : findE m (nm y) = none) :
    PInv l (m ++ [(nm y, (n : Int))]) (n + 1) := by
  have old : ∀ k i, findE m k = some i → findE (m ++ [(nm y, (n : Int))]) k = some i := fun k i hk => by rw [findE_append, hk]; rfl
  refine ⟨old _ _ h.zero, fun k i hk => ?_, fun i b hi hb => ?_⟩
  · rw [findE_append] at hk
    rcases hm : findE m k with _ | j
    · rw [hm] at hk
      simp only [Option.none_or] at hk
      split at hk
      · rename_i e
        cases hk
        right
        refine ⟨y, p, by omega, by omega, by simpa using hy, e, old _ _ hp, ?_, ?_, by omega⟩
        · rcases h.known _ _ hp with ⟨h1, -⟩ | ⟨b, q, h1, h2, -⟩ <;> omega
        · rcases h.known _ _ hp with ⟨h1, -⟩ | ⟨b, q, h1, h2, -⟩ <;> omega
      · cases hk
    · rw [hm] at hk
      cases hk
      rcases h.known _ _ hm with h1 | ⟨b, q, h1, h2, h3, h4, h5, h6, h7, h8⟩
      · exact .inl h1
      · exact .inr ⟨b, q, h1, by omega, h3, h4, old _ _ h5, h6, h7, h8⟩
  · rcases Nat.lt_succ_iff_lt_or_eq.1 hi with hi | hi
    · exact old _ _ (h.names i b hi hb)
    · subst hi
      rw [hy] at hb; cases hb
      rw [findE_append, hq]; simp
theorem placesGo_inv {l : List Bk} : ∀ (r : List Bk) (i : Nat) (m m' : List (ID × Int)), r = l.drop i → i ≤ l.length → PInv l m i → placesGo l r i m = some m' → PInv l m' l.length
  | [], i, m, m', hr, hi, h, hg => by
    cases hg
    have : l.length ≤ i := by
      have := congrArg List.length hr
      simp at this; omega
    rw [show l.length = i by omega]; exact h
  | y :: r, i, m, m', hr, hi, h, hg => by
    have hil : i < l.length := by
      have := congrArg List.length hr
      simp at this; omega
    have hd := List.drop_eq_getElem_cons hil
    rw [hd, List.cons.injEq] at hr
    obtain ⟨rfl, rfl⟩ := hr
    unfold placesGo at hg
    split at hg
    · cases hg
    · rename_i p hp
      split at hg
      · cases hg
      · rename_i hs
        split at hg
        · cases hg
        · rename_i hq
          exact placesGo_inv _ (i + 1) _ m' rfl (by omega) (h.step (List.getElem?_eq_getElem hil) hp hs hq) hg
theorem places_inv0 {l : List Bk} : ∀ (k : ID) (i : Int), findE [(((0, 0) : ID), (-1 : Int))] k = some i → (i = -1 ∧ k = (0, 0)) ∨ ∃ b p, 0 ≤ i ∧ i < (0 : Nat) ∧ l[i.toNat]? = some b ∧ nm b = k ∧ findE [(((0, 0) : ID), (-1 : Int))] b.Parent = some p ∧ p < i ∧ -1 ≤ p ∧ slotIx l p < b.Slot := by
  intro k i hk
  unfold findE findE at hk
  split at hk
  · rename_i e; cases hk; exact .inl ⟨rfl, e.symm⟩
  · cases hk
theorem places_inv {l : List Bk} {m : List (ID × Int)} (h : places l = some m) : PInv l m l.length :=
  placesGo_inv l 0 _ m rfl (Nat.zero_le _) ⟨rfl, places_inv0, fun i b hi => by omega⟩ h
open Go.Proofs
theorem c94N {l : List Bk} {H : List LObj} (h : places l = none) : LC Try.prog 94 [.p (.slice 5 (l.map blkP))] H (Is (.tup [.nilmap, .p (.bool false)]) H) := by
  have h0 : LC Try.prog 94 ([PV.slice 5 (l.map blkP)].map .p) [] (Is (.tup [.nilmap, .p (.bool false)]) []) := c94.mono fun x H hx => by
    rcases hx with ⟨m, hm, -⟩ | ⟨-, h1, h2⟩
    · rw [h] at hm; cases hm
    · exact ⟨h1, h2⟩
  have := LC.frame (H := H) (d := H.length) h0 (.cons Conv.p .nil) (by rw [lenC_of])
  simpa [LV.shift, LV.shifts] using this
theorem c94S {l : List Bk} {m : List (ID × Int)} {H H1 H2 : List LObj} {d : Nat} (h : places l = some m) (hd : lenC H = some d) (h1 : appC H (.box [.p (.slice 5 (l.map blkP))]) = some H1) (h2 : appC H1 (.map (entsOf idP ixV m)) = some H2) :
    LC Try.prog 94 [.p (.slice 5 (l.map blkP))] H (Is (.tup [.map (d + 1), .p (.bool true)]) H2) := by
  have h0 : LC Try.prog 94 ([PV.slice 5 (l.map blkP)].map .p) [] (Is (.tup [.map 1, .p (.bool true)]) [.box [.p (.slice 5 (l.map blkP))], .map (entsOf idP ixV m)]) := c94.mono fun x H hx => by
    rcases hx with ⟨m', hm, h1, h2⟩ | ⟨h1, -⟩
    · rw [h] at hm; cases hm; exact ⟨h1, h2⟩
    · rw [h] at h1; cases h1
  have := LC.frame (H := H) (d := d) h0 (.cons Conv.p .nil) hd
  have e1 := appC_eq h1
  have e2 := appC_eq h2
  subst e1; subst e2
  simpa [LV.shift, LV.shifts, LObj.shift, entsOf, List.append_assoc, Function.comp_def] using this
open Go.Proofs
theorem indexOf_lt {l : List ID} {v : ID} : indexOf l v = -1 ∧ v ∉ l ∨ ∃ i : Nat, indexOf l v = i ∧ l[i]? = some v ∧ ∀ j, j < i → l[j]? ≠ some v := by
  unfold indexOf
  cases h : l.findIdx? (fun x => decide (v = x)) with
  | none =>
    left
    rw [List.findIdx?_eq_none_iff] at h
    exact ⟨rfl, fun hm => by simpa using h v hm⟩
  | some i =>
    right
    rw [List.findIdx?_eq_some_iff_getElem] at h
    obtain ⟨hi, h1, h2⟩ := h
    refine ⟨i, rfl, by rw [List.getElem?_eq_getElem hi]; simpa using (of_decide_eq_true h1).symm, fun j hj hc => ?_⟩
    have := h2 j hj
    rw [List.getElem?_eq_getElem (by omega)] at hc
    simp at hc this
    exact this hc.symm
theorem isInt {k : IntKind} {p : PV} (h : TIs (.int k) p) : ∃ n, p = .int k n ∧ InKind k n := by
  cases h with | int h => exact ⟨_, rfl, h⟩
open Go.Proofs
def F52 (l : List Bk) : Option Bool :=
  (match places l with
  | none =>
    some false
  | some _ =>
    some true)
set_option maxRecDepth 100000 in
theorem c52 {l : List Bk} {r_ : Bool} (hr : F52 l = some r_) : LPure Try.prog 52 [.slice 5 (l.map blkP)] [.bool r_] := by
  refine LPure.start Try.func52 rfl rfl rfl rfl ?_
  unfold F52 at hr
  refine LW.seq ?_
  refine LW.region ?_
  refine LOps.st rfl rfl rfl (LOp.assign rfl rfl) ?_
  refine LOps.nil ?_
  refine thn_n ?_
  refine LW.seq ?_
  refine LW.region ?_
  refine LOps.st rfl rfl rfl (LOp.move rfl rfl) ?_
  rcases h_f1 : places l with _ | m_
  · -- way 0
    rw [h_f1] at hr
    simp only at hr
    refine LOps.st rfl rfl rfl (LOp.call rfl rfl rfl (by kernel_rfl) (c94N h_f1)) ?_
    refine LOps.st rfl rfl rfl (LOp.move rfl rfl) ?_
    refine LOps.st rfl rfl rfl (LOp.extract rfl rfl rfl) ?_
    refine LOps.st rfl rfl rfl (LOp.extract rfl rfl rfl) ?_
    refine LOps.st rfl rfl rfl (LOp.assign rfl rfl) ?_
    refine LOps.st rfl rfl rfl (LOp.assign rfl rfl) ?_
    refine LOps.nil ?_
    refine thn_n ?_
    refine LW.seq ?_
    refine LW.region ?_
    refine LOps.st rfl rfl rfl (LOp.move rfl rfl) ?_
    refine LOps.st rfl rfl rfl (LOp.assign rfl rfl) ?_
    refine LOps.nil ?_
    refine thn_n ?_
    refine LW.ret ?_
    obtain rfl := Option.some.inj hr
    refine finP_ret (.one (.tmp rfl)) ?_
    exact Conv.p
  · -- way 1
    rw [h_f1] at hr
    simp only at hr
    refine LOps.st rfl rfl rfl (LOp.call rfl rfl rfl (by kernel_rfl) (c94S h_f1 rfl rfl rfl)) ?_
    refine LOps.st rfl rfl rfl (LOp.move rfl rfl) ?_
    refine LOps.st rfl rfl rfl (LOp.extract rfl rfl rfl) ?_
    refine LOps.st rfl rfl rfl (LOp.extract rfl rfl rfl) ?_
    refine LOps.st rfl rfl rfl (LOp.assign rfl rfl) ?_
    refine LOps.st rfl rfl rfl (LOp.assign rfl rfl) ?_
    refine LOps.nil ?_
    refine thn_n ?_
    refine LW.seq ?_
    refine LW.region ?_
    refine LOps.st rfl rfl rfl (LOp.move rfl rfl) ?_
    refine LOps.st rfl rfl rfl (LOp.assign rfl rfl) ?_
    refine LOps.nil ?_
    refine thn_n ?_
    refine LW.ret ?_
    obtain rfl := Option.some.inj hr
    refine finP_ret (.one (.tmp rfl)) ?_
    exact Conv.p
def F43 (l : List Bk) (id : ID) : Option (Int × Bool) :=
  (match places l with
  | none =>
    some (0, false)
  | some m_ =>
    (
      bif !((findE m_ id).isSome) then
        some true
      else
        some (((findE m_ id).getD 0) == (-1))
    ).bind fun v1 =>
    bif v1 then
      some (0, (findE m_ id).isSome)
    else
      (ix l ((findE m_ id).getD 0)).bind fun y1 =>
      some (y1.Slot, true))
set_option maxRecDepth 100000 in
theorem c43 {l : List Bk} {id : ID} {r_ : Int × Bool} (hr : F43 l id = some r_) : LPure Try.prog 43 [.slice 5 (l.map blkP), idP id] [.int .i64 r_.1, .bool r_.2] := by
  refine LPure.start Try.func43 rfl rfl rfl rfl ?_
  unfold F43 at hr
  refine LW.seq ?_
  refine LW.region ?_
  refine LOps.st rfl rfl rfl (LOp.box rfl rfl rfl rfl rfl) ?_
  refine LOps.st rfl rfl rfl (LOp.assign rfl rfl) ?_
  refine LOps.st rfl rfl rfl (LOp.assign rfl rfl) ?_
  refine LOps.nil ?_
  refine thn_n ?_
  refine LW.seq ?_
  refine LW.region ?_
  refine LOps.st rfl rfl rfl (LOp.move rfl rfl) ?_
  rcases h_f1 : places l with _ | m_
  · -- way 0
    rw [h_f1] at hr
    simp only at hr
    refine LOps.st rfl rfl rfl (LOp.call rfl rfl rfl (by kernel_rfl) (c94N h_f1)) ?_
    refine LOps.st rfl rfl rfl (LOp.move rfl rfl) ?_
    refine LOps.st rfl rfl rfl (LOp.extract rfl rfl rfl) ?_
    refine LOps.st rfl rfl rfl (LOp.extract rfl rfl rfl) ?_
    refine LOps.st rfl rfl rfl (LOp.assign rfl rfl) ?_
    refine LOps.st rfl rfl rfl (LOp.assign rfl rfl) ?_
    refine LOps.nil ?_
    refine thn_n ?_
    refine LW.seq ?_
    refine LW.region ?_
    refine LOps.st rfl rfl rfl (LOp.move rfl rfl) ?_
    refine LOps.st rfl rfl rfl (LOp.load rfl rfl rfl vt24 rfl rfl) ?_
    refine LOps.st rfl rfl rfl (LOp.getNil (f := idP) (a := id) idKey rfl rfl rfl mt91 zl3 rfl) ?_
    refine LOps.st rfl rfl rfl (LOp.move rfl rfl) ?_
    refine LOps.st rfl rfl rfl (LOp.extract rfl rfl rfl) ?_
    refine LOps.st rfl rfl rfl (LOp.extract rfl rfl rfl) ?_
    refine LOps.st rfl rfl rfl (LOp.assign rfl rfl) ?_
    refine LOps.st rfl rfl rfl (LOp.assign rfl rfl) ?_
    refine LOps.nil ?_
    refine thn_n ?_
    refine LW.seq ?_
    refine LW.seq ?_
    refine LW.region ?_
    refine LOps.st rfl rfl rfl (LOp.move rfl rfl) ?_
    refine LOps.st rfl rfl rfl (LOp.not rfl rfl) ?_
    refine LOps.st rfl rfl rfl (LOp.move rfl rfl) ?_
    refine LOps.sk rfl rfl rfl rfl rfl rfl ?_
    refine LOps.sk rfl rfl rfl rfl rfl rfl ?_
    refine LOps.st rfl rfl rfl (LOp.pickT rfl rfl rfl) ?_
    refine LOps.nil ?_
    refine thn_n ?_
    refine LW.condT rfl ?_
    refine LW.seq ?_
    refine LW.region ?_
    refine LOps.st rfl rfl rfl (LOp.move rfl rfl) ?_
    refine LOps.st rfl rfl rfl (LOp.assign rfl rfl) ?_
    refine LOps.st rfl rfl rfl (LOp.assign rfl rfl) ?_
    refine LOps.nil ?_
    refine thn_n ?_
    refine LW.ret ?_
    refine thn_r ?_
    obtain rfl := Option.some.inj hr
    refine finP_ret (.two (.tmp rfl) (.tmp rfl)) ?_
    exact ⟨_, rfl, (.cons Conv.p (.cons Conv.p .nil))⟩
  · -- way 1
    rw [h_f1] at hr
    simp only at hr
    refine LOps.st rfl rfl rfl (LOp.call rfl rfl rfl (by kernel_rfl) (c94S h_f1 rfl rfl rfl)) ?_
    refine LOps.st rfl rfl rfl (LOp.move rfl rfl) ?_
    refine LOps.st rfl rfl rfl (LOp.extract rfl rfl rfl) ?_
    refine LOps.st rfl rfl rfl (LOp.extract rfl rfl rfl) ?_
    refine LOps.st rfl rfl rfl (LOp.assign rfl rfl) ?_
    refine LOps.st rfl rfl rfl (LOp.assign rfl rfl) ?_
    refine LOps.nil ?_
    refine thn_n ?_
    refine LW.seq ?_
    refine LW.region ?_
    refine LOps.st rfl rfl rfl (LOp.move rfl rfl) ?_
    refine LOps.st rfl rfl rfl (LOp.load rfl rfl rfl vt24 rfl rfl) ?_
    refine LOps.st rfl rfl rfl (LOp.getX (f := idP) (g := (fun v => .p (.int .i64 v))) id 0 idKey rfl rfl rfl rfl mt91 zl3 rfl rfl) ?_
    refine LOps.st rfl rfl rfl (LOp.move rfl rfl) ?_
    refine LOps.st rfl rfl rfl (LOp.extract rfl rfl rfl) ?_
    refine LOps.st rfl rfl rfl (LOp.extract rfl rfl rfl) ?_
    refine LOps.st rfl rfl rfl (LOp.assign rfl rfl) ?_
    refine LOps.st rfl rfl rfl (LOp.assign rfl rfl) ?_
    refine LOps.nil ?_
    refine thn_n ?_
    refine LW.seq ?_
    obtain ⟨v1, hb_v1, ho_v1⟩ := bind_get hr
    clear hr
    refine LW.cut (E := [(0, .p (.slice 5 (l.map blkP))), (4, .p (.int .i64 0)), (5, .p (.bool false)), (8, .p (.int .i64 ((findE m_ id).getD 0))), (9, .p (.bool ((findE m_ id).isSome))), (26, .p (.bool v1))]) (O := [.box [.p (.int .u64 id.1), .p (.int .u64 id.2)], .box [.p (.slice 5 (l.map blkP))], .map (entsOf idP (fun v => .p (.int .i64 v)) m_)]) ?_ ?_
    · have hr := hb_v1
      refine LW.region ?_
      refine LOps.st rfl rfl rfl (LOp.move rfl rfl) ?_
      refine LOps.st rfl rfl rfl (LOp.not rfl rfl) ?_
      refine LOps.st rfl rfl rfl (LOp.move rfl rfl) ?_
      refine LOps.cases 23 rfl (fun (g1 : (!((findE m_ id).isSome)) = true) => ?_) (fun (g1 : (!((findE m_ id).isSome)) = false) => ?_)
      · -- g1 is True
        have hr := ite_t g1 hr
        refine LOps.sk rfl rfl rfl (gd g1 rfl) rfl rfl ?_
        refine LOps.sk rfl rfl rfl (gd g1 rfl) rfl rfl ?_
        refine LOps.st rfl rfl rfl (LOp.pickT rfl (gdl g1 rfl) rfl) ?_
        refine LOps.nil ?_
        refine thn_n ?_
        obtain rfl := Option.some.inj hr
        exact Weak.of 3 ⟨rfl, rfl, rfl, rfl, rfl, rfl, trivial⟩ rfl rfl rfl (lowObjs_cons rfl (lowObjs_cons rfl (lowObjs_cons (entsLow (fun _ => rfl) _) rfl)))
      · -- g1 is False
        have hr := ite_f g1 hr
        refine LOps.gd rfl rfl rfl (gd g1 rfl) rfl (LOp.move rfl rfl) ?_
        refine LOps.gd rfl rfl rfl (gd g1 rfl) rfl (LOp.bin rfl rfl rfl rfl) ?_
        refine LOps.st rfl rfl rfl (LOp.pickF rfl (gdl g1 rfl) rfl) ?_
        refine LOps.nil ?_
        refine thn_n ?_
        obtain rfl := Option.some.inj hr
        exact Weak.of 3 ⟨rfl, rfl, rfl, rfl, rfl, rfl, trivial⟩ rfl rfl rfl (lowObjs_cons rfl (lowObjs_cons rfl (lowObjs_cons (entsLow (fun _ => rfl) _) rfl)))
    · have hr := ho_v1
      clear hb_v1
      refine LW.cond rfl (fun (g2 : v1 = true) => ?_) (fun (g2 : v1 = false) => ?_)
      · -- g2 is True
        have hr := ite_t g2 hr
        refine LW.seq ?_
        refine LW.region ?_
        refine LOps.st rfl rfl rfl (LOp.move rfl rfl) ?_
        refine LOps.st rfl rfl rfl (LOp.assign rfl rfl) ?_
        refine LOps.st rfl rfl rfl (LOp.assign rfl rfl) ?_
        refine LOps.nil ?_
        refine thn_n ?_
        refine LW.ret ?_
        refine thn_r ?_
        obtain rfl := Option.some.inj hr
        refine finP_ret (.two (.tmp rfl) (.tmp rfl)) ?_
        exact ⟨_, rfl, (.cons Conv.p (.cons Conv.p .nil))⟩
      · -- g2 is False
        have hr := ite_f g2 hr
        refine LW.skip ?_
        refine thn_n ?_
        refine LW.seq ?_
        refine LW.region ?_
        refine LOps.st rfl rfl rfl (LOp.move rfl rfl) ?_
        refine LOps.st rfl rfl rfl (LOp.move rfl rfl) ?_
        obtain ⟨y1, h_y1, hr⟩ := bind_get hr
        refine LOps.st rfl rfl rfl (LOp.indexAddrX rfl rfl rfl st27 h_y1 rfl) ?_
        refine LOps.st rfl rfl rfl (LOp.fieldAddrC rfl rfl ft42_0 rfl) ?_
        refine LOps.st rfl rfl rfl (LOp.loadC rfl rfl rfl vt3 rfl rfl) ?_
        refine LOps.st rfl rfl rfl (LOp.assign rfl rfl) ?_
        refine LOps.st rfl rfl rfl (LOp.assign rfl rfl) ?_
        refine LOps.nil ?_
        refine thn_n ?_
        refine LW.ret ?_
        obtain rfl := Option.some.inj hr
        refine finP_ret (.two (.tmp rfl) (.tmp rfl)) ?_
        exact ⟨_, rfl, (.cons Conv.p (.cons Conv.p .nil))⟩
structure F46_L1 where
  t13 : Int
  out : List ID
open Go.Proofs
theorem ob {α β : Type} {x : α} {f : α → Option β} : (some x).bind f = f x := by
  have h : ∀ o : Option α, o = some x → o.bind f = f x := by intro o e; subst e; rfl
  exact h _ rfl
theorem ct {α : Sort _} {x y : α} : (bif true then x else y) = x := by
  have h : ∀ b : Bool, b = true → (bif b then x else y) = x := by intro o e; subst e; rfl
  exact h _ rfl
theorem cf {α : Sort _} {x y : α} : (bif false then x else y) = y := by
  have h : ∀ b : Bool, b = false → (bif b then x else y) = y := by intro o e; subst e; rfl
  exact h _ rfl
theorem sl {α β γ : Type} {f : α → γ} {g : β → γ} {x : α} : Sum.elim f g (.inl x) = f x := by
  have h : ∀ s : α ⊕ β, s = .inl x → Sum.elim f g s = f x := by intro o e; subst e; rfl
  exact h _ rfl
theorem sr {α β γ : Type} {f : α → γ} {g : β → γ} {x : β} : Sum.elim f g (.inr x) = g x := by
  have h : ∀ s : α ⊕ β, s = .inr x → Sum.elim f g s = g x := by intro o e; subst e; rfl
  exact h _ rfl
/-- A loop comes to its end, and what holds there. -/
theorem iter_inv {α β : Type} {step : α → Option (α ⊕ β)} (Inv : α → Prop) (m : α → Nat) (Post : β → Prop)
    (h : ∀ x, Inv x → (∃ y, step x = some (.inl y) ∧ Inv y ∧ m y < m x) ∨ ∃ b, step x = some (.inr b) ∧ Post b) : ∀ {n : Nat} {x : α}, Inv x → m x < n → ∃ b, iter step n x = some b ∧ Post b := by
  intro n
  induction n with
  | zero => intro x _ hn; omega
  | succ n ih =>
    intro x hx hn
    unfold iter
    rcases h x hx with ⟨y, h1, h2, h3⟩ | ⟨b, h1, h2⟩
    · rw [h1]; exact ih h2 (by omega)
    · rw [h1]; exact ⟨b, rfl, h2⟩
theorem ix_nat {α : Type} {l : List α} {n : Nat} {y : α} (h : l[n]? = some y) : ix l (n : Int) = some y := by
  unfold ix; rw [if_pos (by omega)]; simpa using h
theorem ix_of {α : Type} {l : List α} {i : Int} {y : α} (h0 : 0 ≤ i) (h : l[i.toNat]? = some y) : ix l i = some y := by
  unfold ix; rw [if_pos h0]; exact h
theorem get_of {α : Type} {l : List α} {n : Nat} (h : n < l.length) : ∃ y, l[n]? = some y ∧ y ∈ l := ⟨l[n], List.getElem?_eq_getElem h, List.getElem_mem h⟩
theorem wrap_succ {n : Nat} (h : n < 4000000000) : IntKind.i64.wrap ((n : Int) + 1) = ((n + 1 : Nat) : Int) := by
  rw [wrapI (by omega) (by omega)]; omega
theorem room_ok {a b c : Nat} (h : a + b ≤ 1000000) (hc : c ≤ 1000) : room a b c = true := by
  have : (a + b) * (c + 1) ≤ 1000000 * 1001 := Nat.mul_le_mul h (by omega)
  exact decide_eq_true (by omega)
theorem inL_hi {α : Type} {l : List α} {i : Int} (h0 : 0 ≤ i) (h : i ≤ l.length) : inL l 0 i = true := decide_eq_true ⟨Int.le_refl _, h0, h⟩
theorem big_gt {n : Nat} (h : n < 4000000000000000000) : n < big := by unfold big; omega
theorem eqID0 (a : ID) : ((a.1 == 0) && ((a.2 == 0) && true)) = decide (a = (0, 0)) := eqID a (0, 0)
theorem isListO {α : Type} {f : α → PV} {O : α → Prop} {T : TS} (hf : ∀ p, TIs T p → ∃ a, p = f a ∧ O a) : ∀ {xs : List PV}, (∀ x ∈ xs, TIs T x) → ∃ l : List α, xs = l.map f ∧ ∀ a ∈ l, O a
  | [], _ => ⟨[], rfl, fun a h => by simp at h⟩
  | x :: xs, h => by
    obtain ⟨a, rfl, ha⟩ := hf x (h x (.head _))
    obtain ⟨l, rfl, hl⟩ := isListO hf fun y hy => h y (.tail _ hy)
    exact ⟨a :: l, rfl, fun b hb => by
      cases hb with
      | head => exact ha
      | tail _ hb => exact hl b hb⟩
theorem isSliceO {α : Type} {f : α → PV} {O : α → Prop} {T : TS} {m : Nat} (hf : ∀ p, TIs T p → ∃ a, p = f a ∧ O a) {p : PV} (h : TIs (.slice m T) p) : ∃ l : List α, p = .slice m (l.map f) ∧ ∀ a ∈ l, O a := by
  cases h with
  | slice h =>
    obtain ⟨l, rfl, hl⟩ := isListO hf h
    exact ⟨l, rfl, hl⟩
/-- A block's numbers are of their kinds. -/
def BkOk (b : Bk) : Prop := InKind .i64 b.Slot ∧ InKind .i64 b.From ∧ InKind .u64 b.Parent.1 ∧ InKind .u64 b.Parent.2 ∧ InKind .u64 b.Salt
def VtOk (v : Vt) : Prop := InKind .i64 v.From ∧ InKind .i64 v.Slot ∧ InKind .u64 v.Head.1 ∧ InKind .u64 v.Head.2
def CfOk (c : Cf) : Prop := (∀ w ∈ c.W, InKind .i64 w) ∧ InKind .u64 c.Seed ∧ InKind .i64 c.Epoch ∧ InKind .i64 c.Num ∧ InKind .i64 c.Den
def VwOk (w : Vw) : Prop := (∀ b ∈ w.B, BkOk b) ∧ ∀ v ∈ w.V, VtOk v
theorem isBkO {p : PV} (h : TIs (.agg [.int .i64, .int .i64, .int .u64, .int .u64, .int .u64]) p) : ∃ c : Bk, p = blkP c ∧ BkOk c := by
  cases h with | agg h =>
  cases h with | cons a h => cases h with | cons b h => cases h with | cons c h => cases h with | cons d h => cases h with | cons e h =>
    cases h; cases a; cases b; cases c; cases d; cases e
    exact ⟨⟨_, _, (_, _), _⟩, rfl, by assumption, by assumption, by assumption, by assumption, by assumption⟩
theorem isVtO {p : PV} (h : TIs (.agg [.int .i64, .int .i64, .int .u64, .int .u64]) p) : ∃ c : Vt, p = vtP c ∧ VtOk c := by
  cases h with | agg h =>
  cases h with | cons a h => cases h with | cons b h => cases h with | cons c h => cases h with | cons d h =>
    cases h; cases a; cases b; cases c; cases d
    exact ⟨⟨_, _, (_, _)⟩, rfl, by assumption, by assumption, by assumption, by assumption⟩
theorem isIntO {k : IntKind} {f : Int → PV} (hf : ∀ n, f n = .int k n) {p : PV} (h : TIs (.int k) p) : ∃ n, p = f n ∧ InKind k n := by
  cases h with | int h => exact ⟨_, (hf _).symm, h⟩
theorem isInts {p : PV} (h : TIs (.slice 1 (.int .i64)) p) : ∃ l : List Int, p = .slice 1 (l.map i64P) ∧ ∀ a ∈ l, InKind .i64 a := isSliceO (fun _ h => isIntO (fun _ => rfl) h) h
theorem isCfO {p : PV} (h : TIs (.agg [.slice 1 (.int .i64), .int .u64, .int .i64, .int .i64, .int .i64]) p) : ∃ c : Cf, p = cfP c ∧ CfOk c := by
  cases h with | agg h =>
  cases h with | cons a h => cases h with | cons b h => cases h with | cons c h => cases h with | cons d h => cases h with | cons e h =>
    cases h
    obtain ⟨w, rfl, hw⟩ := isInts a
    cases b; cases c; cases d; cases e
    exact ⟨⟨w, _, _, _, _⟩, rfl, hw, by assumption, by assumption, by assumption, by assumption⟩
theorem isVwO {p : PV} (h : TIs (.agg [.slice 5 (.agg [.int .i64, .int .i64, .int .u64, .int .u64, .int .u64]), .slice 4 (.agg [.int .i64, .int .i64, .int .u64, .int .u64])]) p) : ∃ c : Vw, p = vwP c ∧ VwOk c := by
  cases h with | agg h =>
  cases h with | cons a h => cases h with | cons b h =>
    cases h
    obtain ⟨x, rfl, hx⟩ := isSliceO (fun _ h => isBkO h) a
    obtain ⟨y, rfl, hy⟩ := isSliceO (fun _ h => isVtO h) b
    exact ⟨⟨x, y⟩, rfl, hx, hy⟩
section
variable {l : List Bk}
/-- Where a block is. -/
def findOf (l : List Bk) (id : ID) : Int := match places l with
  | none => -1
  | some m => (findE m id).getD (-1)
/-- Its slot, and whether it is there. -/
def slotOfB (l : List Bk) (id : ID) : Int × Bool := match places l with
  | none => (0, false)
  | some m => match findE m id with
    | none => (0, false)
    | some i => (slotIx l i, true)
theorem F52_eq : F52 l = some (places l).isSome := by
  unfold F52
  cases h : places l <;> rfl
theorem known_ix {m : List (ID × Int)} (h : places l = some m) {id : ID} {i : Int} (hf : findE m id = some i) : (i = -1 ∧ id = (0, 0)) ∨ ∃ b, 0 ≤ i ∧ i < l.length ∧ l[i.toNat]? = some b ∧ nm b = id ∧ slotIx l i = b.Slot := by
  rcases (places_inv h).known _ _ hf with h1 | ⟨b, p, h0, h1, h2, h3, -⟩
  · exact .inl h1
  · exact .inr ⟨b, h0, h1, h2, h3, by simp [slotIx, h2, show ¬ i = -1 by omega]⟩
theorem F43_eq (id : ID) : F43 l id = some (slotOfB l id) := by
  unfold F43 slotOfB
  cases h : places l with
  | none => rfl
  | some m =>
    cases hf : findE m id with
    | none => simp [hf]
    | some i =>
      rcases known_ix h hf with ⟨rfl, -⟩ | ⟨b, h0, h1, h2, h3, h4⟩
      · simp [hf, slotIx]
      · have : (i == -1) = false := by simp; omega
        simp [hf, this, ix_of h0 h2, h4]
end
/-- What the program's map holds of the first n. -/
def mAt (l : List Bk) : Nat → List (ID × Int)
  | 0 => [((0, 0), -1)]
  | n + 1 => match l[n]? with
    | some b => mAt l n ++ [(nm b, (n : Int))]
    | none => mAt l n
theorem indexOf_snoc {a : List ID} {x id : ID} : indexOf (a ++ [x]) id = if 0 ≤ indexOf a id then indexOf a id else if x = id then a.length else -1 := by
  rcases indexOf_lt (l := a) (v := id) with ⟨h1, h2⟩ | ⟨i, h1, h2, h3⟩
  · rw [if_neg (by omega)]
    by_cases hx : x = id
    · subst hx
      rw [if_pos rfl]
      refine indexOf_at (i := a.length) (by simp) fun j hj e => h2 ?_
      rw [List.getElem?_append_left hj] at e
      exact List.mem_of_getElem? e
    · rw [if_neg hx]
      refine indexOf_none fun j hj e => ?_
      have := List.mem_of_getElem? e
      simp only [List.mem_append, List.mem_singleton] at this
      rcases this with h | h
      · exact h2 h
      · exact hx h.symm
  · rw [h1, if_pos (by omega)]
    have hi := (List.getElem?_eq_some_iff.1 h2).1
    refine indexOf_at (by rw [List.getElem?_append_left hi]; exact h2) fun j hj => ?_
    rw [List.getElem?_append_left (by omega)]; exact h3 j hj
theorem mAt_find {l : List Bk} (id : ID) : ∀ n, n ≤ l.length → findE (mAt l n) id = if id = (0, 0) then some (-1) else if 0 ≤ indexOf ((l.take n).map nm) id then some (indexOf ((l.take n).map nm) id) else none
  | 0, _ => by
    have : indexOf ((l.take 0).map nm) id = -1 := by simp [indexOf]
    simp only [mAt, findE, this]
    by_cases h : id = (0, 0)
    · subst h; simp
    · rw [if_neg (fun e => h e.symm), if_neg h, if_neg (by omega)]
  | n + 1, hn => by
    obtain ⟨b, hb, -⟩ := get_of (l := l) (n := n) (by omega)
    have ih := mAt_find (l := l) id n (by omega)
    simp only [mAt, hb]
    rw [findE_append, ih, List.take_add_one, hb]
    simp only [Option.toList, List.map_append, List.map_cons, List.map_nil]
    rw [indexOf_snoc]
    by_cases h : id = (0, 0)
    · rw [if_pos h, if_pos h]; rfl
    · rw [if_neg h, if_neg h]
      by_cases h2 : 0 ≤ indexOf ((l.take n).map nm) id
      · rw [if_pos h2, if_pos h2, if_pos h2]; rfl
      · rw [if_neg h2, if_neg h2]
        by_cases h3 : nm b = id
        · rw [if_pos h3, if_pos h3, if_pos (by omega)]
          simp; omega
        · rw [if_neg h3, if_neg h3, if_neg (by omega)]; rfl
theorem mAt_slot {l : List Bk} {n : Nat} {id : ID} (h : 0 ≤ indexOf ((l.take n).map nm) id) : ∃ (j : Nat) (b : Bk), indexOf ((l.take n).map nm) id = j ∧ j < n ∧ l[j]? = some b ∧ nm b = id := by
  rcases indexOf_lt (l := (l.take n).map nm) (v := id) with ⟨h1, h2⟩ | ⟨i, h1, h2, h3⟩
  · omega
  · have hi := (List.getElem?_eq_some_iff.1 h2).1
    simp only [List.length_map, List.length_take] at hi
    rw [List.getElem?_map, List.getElem?_take_of_lt (by omega)] at h2
    cases hb : l[i]? with
    | none => rw [hb] at h2; simp at h2
    | some b => rw [hb] at h2; simp at h2; exact ⟨i, b, h1, by omega, hb, h2⟩
/-- What the program's map holds, in the end. -/
theorem places_mAt {l : List Bk} : ∀ (r n : Nat), l.length - n = r → n ≤ l.length → ∀ m, placesGo l (l.drop n) n (mAt l n) = some m → m = mAt l l.length := by
  intro r
  induction r with
  | zero =>
    intro n hr hn m h
    have : n = l.length := by omega
    subst this
    rw [List.drop_length] at h
    cases h; rfl
  | succ r ih =>
    intro n hr hn m h
    obtain ⟨y, hy, -⟩ := get_of (l := l) (n := n) (by omega)
    rw [placesGo_at hy] at h
    split at h
    · cases h
    · split at h
      · cases h
      · split at h
        · cases h
        · refine ih (n + 1) (by omega) (by omega) m ?_
          have e : mAt l (n + 1) = mAt l n ++ [(nm y, (n : Int))] := by simp only [mAt, hy]
          rw [e]; exact h
theorem places_is {l : List Bk} {m : List (ID × Int)} (h : places l = some m) : m = mAt l l.length := places_mAt l.length 0 (by omega) (Nat.zero_le _) m h
end Go.Mg
