/- What the logic needs to know of each type of the program. The program's structs as plain data, and how they lie in memory. The mixing functions. mix.Of. tree.Name, slices.Index, slices.Contains. tree.places. Plain facts of trees: what 'places' tells. tree.Chain. cursor.Move. Plain facts of chains and cursors. Plain laws of cursors. tree.May, Find, Slot, Kids. The examples of the laws of trees and cursors. Plain tools for printed functions: loops by what holds at their heads. What the laws hand over, with the bounds of its numbers. Plain facts of trees: what the program's Find, Slot, Kids tell. Plain facts of a beginning of blocks. Conditions: none. -/
import Derived.Test.YtpakechgakmonaaGreatL2
import Derived.Test.YtpakechgakmonaaGreatProg
namespace Go.Mg
open Go.Proofs
section
variable {w : World}
theorem at115 : arrTy Tryz.prog 96 = some (10, 5, true) := by kernel_rfl
theorem at1108 : arrTy Tryz.prog 108 = some (2, 1, false) := by kernel_rfl
theorem bt55 : buildTy Tryz.prog 25 = some ([LV.zs, LV.p (PV.int IntKind.u64 0), LV.p (PV.int IntKind.i64 0), LV.p (PV.int IntKind.i64 0), LV.p (PV.int IntKind.i64 0)], [(0, 1), (1, 1), (2, 1), (3, 1), (4, 1)]) := by kernel_rfl
theorem bt1038 : buildTy Tryz.prog 38 = some ([LV.zs, LV.p (PV.int IntKind.u64 0), LV.p (PV.int IntKind.i64 0), LV.p (PV.int IntKind.i64 0), LV.p (PV.int IntKind.i64 0), LV.zs, LV.p (PV.int IntKind.i64 0), LV.zs, LV.zs], [(0, 5), (5, 1), (6, 1), (7, 1), (8, 1)]) := by kernel_rfl
theorem bt24 : buildTy Tryz.prog 40 = some ([LV.p (PV.int IntKind.u64 0), LV.p (PV.int IntKind.u64 0)], [(0, 1), (1, 1)]) := by kernel_rfl
theorem bt75 : buildTy Tryz.prog 44 = some ([LV.zs, LV.zs], [(0, 1), (1, 1)]) := by kernel_rfl
theorem bt42 : buildTy Tryz.prog 47 = some ([LV.p (PV.int IntKind.i64 0), LV.p (PV.int IntKind.i64 0), LV.p (PV.int IntKind.u64 0), LV.p (PV.int IntKind.u64 0), LV.p (PV.int IntKind.u64 0)], [(0, 1), (1, 1), (2, 2), (4, 1)]) := by kernel_rfl
theorem bt1049 : buildTy Tryz.prog 49 = some ([LV.p (PV.int IntKind.i64 0), LV.p (PV.int IntKind.i64 0), LV.p (PV.bool false), LV.zs, LV.zs], [(0, 1), (1, 1), (2, 1), (3, 1), (4, 1)]) := by kernel_rfl
theorem bt120 : buildTy Tryz.prog 101 = some ([LV.p (PV.int IntKind.u64 0), LV.p (PV.int IntKind.i64 0), LV.p (PV.int IntKind.u32 0), LV.p (PV.int IntKind.i32 0), LV.p (PV.int IntKind.u32 0), LV.p (PV.int IntKind.i64 0), LV.p (PV.int IntKind.u64 0), LV.p (PV.int IntKind.u32 0), LV.p (PV.int IntKind.i32 0), LV.p (PV.int IntKind.u32 0), LV.p (PV.int IntKind.i64 0), LV.p (PV.int IntKind.u64 0), LV.p (PV.int IntKind.u32 0), LV.p (PV.int IntKind.i32 0), LV.p (PV.int IntKind.u32 0), LV.p (PV.int IntKind.i64 0), LV.p (PV.int IntKind.u64 0), LV.p (PV.int IntKind.u32 0), LV.p (PV.int IntKind.i32 0), LV.p (PV.int IntKind.u32 0), LV.p (PV.int IntKind.i64 0), LV.p (PV.int IntKind.u64 0), LV.p (PV.int IntKind.u32 0), LV.p (PV.int IntKind.i32 0), LV.p (PV.int IntKind.u32 0), LV.p (PV.int IntKind.i64 0), LV.p (PV.int IntKind.u64 0), LV.p (PV.int IntKind.u32 0), LV.p (PV.int IntKind.i32 0), LV.p (PV.int IntKind.u32 0), LV.p (PV.int IntKind.i64 0), LV.p (PV.int IntKind.u64 0), LV.p (PV.int IntKind.u32 0), LV.p (PV.int IntKind.i32 0), LV.p (PV.int IntKind.u32 0), LV.p (PV.int IntKind.i64 0), LV.p (PV.int IntKind.u64 0), LV.p (PV.int IntKind.u32 0), LV.p (PV.int IntKind.i32 0), LV.p (PV.int IntKind.u32 0), LV.p (PV.int IntKind.i64 0), LV.p (PV.int IntKind.u64 0), LV.p (PV.int IntKind.u32 0), LV.p (PV.int IntKind.i32 0), LV.p (PV.int IntKind.u32 0), LV.p (PV.int IntKind.i64 0), LV.p (PV.int IntKind.u64 0), LV.p (PV.int IntKind.u32 0), LV.p (PV.int IntKind.i32 0), LV.p (PV.int IntKind.u32 0), LV.p (PV.int IntKind.i64 0), LV.p (PV.int IntKind.u64 0), LV.p (PV.int IntKind.i64 0)], [(0, 1), (1, 1), (2, 50), (52, 1)]) := by kernel_rfl
theorem bt1108 : buildTy Tryz.prog 108 = some ([LV.p (PV.int IntKind.u64 0), LV.p (PV.int IntKind.u64 0)], [(0, 1), (1, 1)]) := by kernel_rfl
theorem eqt42 : eqTy Tryz.prog 47 5 = true := by kernel_rfl
theorem eqt1108 : eqTy Tryz.prog 108 2 = true := by kernel_rfl
theorem eqt82 : eqTy Tryz.prog 123 4 = true := by kernel_rfl
theorem ft55_0 : fieldTy Tryz.prog 25 0 = some (0, 1, false) := by kernel_rfl
theorem ft55_1 : fieldTy Tryz.prog 25 1 = some (1, 1, false) := by kernel_rfl
theorem ft55_2 : fieldTy Tryz.prog 25 2 = some (2, 1, false) := by kernel_rfl
theorem ft55_3 : fieldTy Tryz.prog 25 3 = some (3, 1, false) := by kernel_rfl
theorem ft55_4 : fieldTy Tryz.prog 25 4 = some (4, 1, false) := by kernel_rfl
theorem ft1038_3 : fieldTy Tryz.prog 38 3 = some (7, 1, false) := by kernel_rfl
theorem ft1038_4 : fieldTy Tryz.prog 38 4 = some (8, 1, false) := by kernel_rfl
theorem ft75_0 : fieldTy Tryz.prog 44 0 = some (0, 1, false) := by kernel_rfl
theorem ft75_1 : fieldTy Tryz.prog 44 1 = some (1, 1, false) := by kernel_rfl
theorem ft1049_3 : fieldTy Tryz.prog 49 3 = some (3, 1, false) := by kernel_rfl
theorem ft1049_4 : fieldTy Tryz.prog 49 4 = some (4, 1, false) := by kernel_rfl
theorem ft1052_0 : fieldTy Tryz.prog 52 0 = some (0, 1, false) := by kernel_rfl
theorem ft1052_1 : fieldTy Tryz.prog 52 1 = some (1, 1, false) := by kernel_rfl
theorem ft106_1 : fieldTy Tryz.prog 87 1 = some (0, 1, false) := by kernel_rfl
theorem ft108_0 : fieldTy Tryz.prog 89 0 = some (0, 1, false) := by kernel_rfl
theorem ft110_1 : fieldTy Tryz.prog 91 1 = some (0, 2, true) := by kernel_rfl
theorem ft112_1 : fieldTy Tryz.prog 93 1 = some (0, 1, true) := by kernel_rfl
theorem ft112_2 : fieldTy Tryz.prog 93 2 = some (1, 2, true) := by kernel_rfl
theorem ft114_0 : fieldTy Tryz.prog 95 0 = some (0, 3, true) := by kernel_rfl
theorem ft114_1 : fieldTy Tryz.prog 95 1 = some (3, 1, false) := by kernel_rfl
theorem ft114_2 : fieldTy Tryz.prog 95 2 = some (4, 1, false) := by kernel_rfl
theorem ft118_2 : fieldTy Tryz.prog 99 2 = some (0, 1, false) := by kernel_rfl
theorem ft120_0 : fieldTy Tryz.prog 101 0 = some (0, 1, false) := by kernel_rfl
theorem ft120_1 : fieldTy Tryz.prog 101 1 = some (1, 1, false) := by kernel_rfl
theorem ft120_2 : fieldTy Tryz.prog 101 2 = some (2, 50, true) := by kernel_rfl
theorem ft120_3 : fieldTy Tryz.prog 101 3 = some (52, 1, true) := by kernel_rfl
theorem mt132 : mapTy Tryz.prog 56 = some (3, 4, 1, false) := by kernel_rfl
theorem st49 : slTy Tryz.prog 22 = some (1, 8) := by kernel_rfl
theorem st27 : slTy Tryz.prog 41 = some (5, 40) := by kernel_rfl
theorem st68 : slTy Tryz.prog 42 = some (4, 32) := by kernel_rfl
theorem st1050 : slTy Tryz.prog 50 = some (5, 72) := by kernel_rfl
theorem st98 : slTy Tryz.prog 111 = some (1, 8) := by kernel_rfl
theorem vt3 : varTy Tryz.prog 3 = some (1, false) := by kernel_rfl
theorem vt21 : varTy Tryz.prog 21 = some (1, false) := by kernel_rfl
theorem vt49 : varTy Tryz.prog 22 = some (1, false) := by kernel_rfl
theorem vt22 : varTy Tryz.prog 23 = some (1, false) := by kernel_rfl
theorem vt55 : varTy Tryz.prog 25 = some (5, true) := by kernel_rfl
theorem vt1035 : varTy Tryz.prog 35 = some (1, false) := by kernel_rfl
theorem vt1036 : varTy Tryz.prog 36 = some (1, false) := by kernel_rfl
theorem vt27 : varTy Tryz.prog 41 = some (1, false) := by kernel_rfl
theorem vt68 : varTy Tryz.prog 42 = some (1, false) := by kernel_rfl
theorem vt75 : varTy Tryz.prog 44 = some (2, true) := by kernel_rfl
theorem vt42 : varTy Tryz.prog 47 = some (5, true) := by kernel_rfl
theorem vt1049 : varTy Tryz.prog 49 = some (5, true) := by kernel_rfl
theorem vt1052 : varTy Tryz.prog 52 = some (2, true) := by kernel_rfl
theorem vt131 : varTy Tryz.prog 55 = some (1, false) := by kernel_rfl
theorem vt132 : varTy Tryz.prog 56 = some (1, false) := by kernel_rfl
theorem vt100 : varTy Tryz.prog 81 = some (1, false) := by kernel_rfl
theorem vt1108 : varTy Tryz.prog 108 = some (2, true) := by kernel_rfl
theorem vt82 : varTy Tryz.prog 123 = some (4, true) := by kernel_rfl
theorem vt160 : varTy Tryz.prog 144 = some (1, false) := by kernel_rfl
theorem zl4 : zeroL Tryz.prog 4 = some (LV.p (PV.bool false)) := by kernel_rfl
theorem zt3 : zeroTy Tryz.prog 3 = some [LV.p (PV.int IntKind.i64 0)] := by kernel_rfl
theorem zt49 : zeroTy Tryz.prog 22 = some [LV.zs] := by kernel_rfl
theorem zt55 : zeroTy Tryz.prog 25 = some [LV.zs, LV.p (PV.int IntKind.u64 0), LV.p (PV.int IntKind.i64 0), LV.p (PV.int IntKind.i64 0), LV.p (PV.int IntKind.i64 0)] := by kernel_rfl
theorem zt75 : zeroTy Tryz.prog 44 = some [LV.zs, LV.zs] := by kernel_rfl
theorem zt42 : zeroTy Tryz.prog 47 = some [LV.p (PV.int IntKind.i64 0), LV.p (PV.int IntKind.i64 0), LV.p (PV.int IntKind.u64 0), LV.p (PV.int IntKind.u64 0), LV.p (PV.int IntKind.u64 0)] := by kernel_rfl
theorem zt1049 : zeroTy Tryz.prog 49 = some [LV.p (PV.int IntKind.i64 0), LV.p (PV.int IntKind.i64 0), LV.p (PV.bool false), LV.zs, LV.zs] := by kernel_rfl
theorem zt1052 : zeroTy Tryz.prog 52 = some [LV.zs, LV.zs] := by kernel_rfl
theorem zt132 : zeroTy Tryz.prog 56 = some [LV.nilmap] := by kernel_rfl
theorem zt1108 : zeroTy Tryz.prog 108 = some [LV.p (PV.int IntKind.u64 0), LV.p (PV.int IntKind.u64 0)] := by kernel_rfl
theorem zt82 : zeroTy Tryz.prog 123 = some [LV.p (PV.int IntKind.i64 0), LV.p (PV.int IntKind.i64 0), LV.p (PV.int IntKind.u64 0), LV.p (PV.int IntKind.u64 0)] := by kernel_rfl
theorem zt160 : zeroTy Tryz.prog 144 = some [LV.any] := by kernel_rfl
end
abbrev ID := Int × Int
def idP (p : ID) : PV := .agg [.int .u64 p.1, .int .u64 p.2]
def wordP (x : Int) : PV := .int .u64 x
/-- A block. -/
structure Bk where
  Slot : Int
  From : Int
  Parent : ID
  Salt : Int
  deriving DecidableEq
def blkP (b : Bk) : PV := .agg [.int .i64 b.Slot, .int .i64 b.From, .int .u64 b.Parent.1, .int .u64 b.Parent.2, .int .u64 b.Salt]
/-- A vote. -/
structure Vt where
  From : Int
  Slot : Int
  Head : ID
  deriving DecidableEq
def vtP (v : Vt) : PV := .agg [.int .i64 v.From, .int .i64 v.Slot, .int .u64 v.Head.1, .int .u64 v.Head.2]
/-- What all agree on. -/
structure Cf where
  W : List Int
  Seed : Int
  Epoch : Int
  Num : Int
  Den : Int
def cfP (c : Cf) : PV := .agg [.slice 1 (c.W.map i64P), .int .u64 c.Seed, .int .i64 c.Epoch, .int .i64 c.Num, .int .i64 c.Den]
/-- A view. -/
structure Vw where
  B : List Bk
  V : List Vt
def vwP (v : Vw) : PV := .agg [.slice 5 (v.B.map blkP), .slice 4 (v.V.map vtP)]
/-- A cursor. -/
structure Cu where
  ID : Go.Mg.ID
  Slot : Int
  Revoked : Int
  deriving DecidableEq
/-- A block, and how much is on it. -/
structure Rk where
  n : Int
  id : Go.Mg.ID
theorem i64Key : KeyOk i64P 1 false := ⟨fun a b => by simp only [i64P, keyEq, if_pos, Option.some.injEq]; by_cases h : a = b <;> simp [h], fun _ => rfl⟩
open Go.Proofs
/-- What mix.Word does. -/
def word (x : Int) : Int :=
  let a := IntKind.u64.wrap (bits .xor .u64 x (x.fdiv (2 ^ (min (Int.toNat 30) IntKind.u64.bits))) * 13787848793156543929)
  let b := IntKind.u64.wrap (bits .xor .u64 a (a.fdiv (2 ^ (min (Int.toNat 27) IntKind.u64.bits))) * 10723151780598845931)
  bits .xor .u64 b (b.fdiv (2 ^ (min (Int.toNat 31) IntKind.u64.bits)))
def step (h x : Int) : Int := word (IntKind.u64.wrap (bits .xor .u64 h x + 11400714819323198485))
/-- The complement of a word. -/
def inv (x : Int) : Int := bits .xor .u64 (if IntKind.u64.signed then -1 else IntKind.u64.max) x
set_option maxRecDepth 100000 in
theorem c146 {x : Int} : LPure Tryz.prog 38 [.int .u64 x] [.int .u64 (word x)] := by
  refine LPure.start Tryz.func38 rfl rfl rfl rfl ?_
  refine LW.seq ?_
  refine LW.region ?_
  refine LOps.st rfl rfl rfl (LOp.assign rfl rfl) ?_
  refine LOps.nil ?_
  refine thn_n ?_
  refine LW.seq ?_
  refine LW.region ?_
  refine LOps.st rfl rfl rfl (LOp.move rfl rfl) ?_
  refine LOps.st rfl rfl rfl (LOp.move rfl rfl) ?_
  refine LOps.st rfl rfl rfl (LOp.shr rfl rfl rfl (by decide)) ?_
  refine LOps.st rfl rfl rfl (LOp.bin rfl rfl rfl rfl) ?_
  refine LOps.st rfl rfl rfl (LOp.bin rfl rfl rfl rfl) ?_
  refine LOps.st rfl rfl rfl (LOp.assign rfl rfl) ?_
  refine LOps.nil ?_
  refine thn_n ?_
  refine LW.seq ?_
  refine LW.region ?_
  refine LOps.st rfl rfl rfl (LOp.move rfl rfl) ?_
  refine LOps.st rfl rfl rfl (LOp.move rfl rfl) ?_
  refine LOps.st rfl rfl rfl (LOp.shr rfl rfl rfl (by decide)) ?_
  refine LOps.st rfl rfl rfl (LOp.bin rfl rfl rfl rfl) ?_
  refine LOps.st rfl rfl rfl (LOp.bin rfl rfl rfl rfl) ?_
  refine LOps.st rfl rfl rfl (LOp.assign rfl rfl) ?_
  refine LOps.nil ?_
  refine thn_n ?_
  refine LW.seq ?_
  refine LW.region ?_
  refine LOps.st rfl rfl rfl (LOp.move rfl rfl) ?_
  refine LOps.st rfl rfl rfl (LOp.move rfl rfl) ?_
  refine LOps.st rfl rfl rfl (LOp.shr rfl rfl rfl (by decide)) ?_
  refine LOps.st rfl rfl rfl (LOp.bin rfl rfl rfl rfl) ?_
  refine LOps.st rfl rfl rfl (LOp.assign rfl rfl) ?_
  refine LOps.nil ?_
  refine thn_n ?_
  refine LW.ret ?_
  refine finP_ret (.one (.tmp rfl)) ?_
  exact Conv.p
set_option maxRecDepth 100000 in
theorem c108 {h x : Int} : LPure Tryz.prog 22 [.int .u64 h, .int .u64 x] [.int .u64 (step h x)] := by
  refine LPure.start Tryz.func22 rfl rfl rfl rfl ?_
  refine LW.seq ?_
  refine LW.region ?_
  refine LOps.st rfl rfl rfl (LOp.assign rfl rfl) ?_
  refine LOps.nil ?_
  refine thn_n ?_
  refine LW.seq ?_
  refine LW.region ?_
  refine LOps.st rfl rfl rfl (LOp.move rfl rfl) ?_
  refine LOps.st rfl rfl rfl (LOp.move rfl rfl) ?_
  refine LOps.st rfl rfl rfl (LOp.bin rfl rfl rfl rfl) ?_
  refine LOps.st rfl rfl rfl (LOp.bin rfl rfl rfl rfl) ?_
  refine LOps.st rfl rfl rfl (LOp.call rfl rfl rfl (by kernel_rfl) (LC.pure c146 (.cons Conv.p .nil))) ?_
  refine LOps.st rfl rfl rfl (LOp.assign rfl rfl) ?_
  refine LOps.nil ?_
  refine thn_n ?_
  refine LW.ret ?_
  refine finP_ret (.one (.tmp rfl)) ?_
  exact Conv.p
open Go.Proofs
/-- A word more. -/
def mixStep (p : Int × Int) (x : Int) : Int × Int := (step p.1 x, step p.2 (inv x))
/-- What mix.Of tells of words. -/
def mixOf (l : List Int) : Int × Int := mixStep (l.foldl mixStep (1, 2)) (IntKind.u64.wrap l.length)
open Go.Proofs
def nameWords (b : Bk) : List Int := [1, IntKind.u64.wrap b.Slot, IntKind.u64.wrap b.From, b.Parent.1, b.Parent.2, b.Salt]
/-- A block's name. -/
def nm (b : Bk) : ID := mixOf (nameWords b)
open Go.Proofs
/-- The slot of the block at i; -1 is the beginning. -/
def slotIx (l : List Bk) (i : Int) : Int := if i = -1 then 0 else match l[i.toNat]? with
  | some b => b.Slot
  | none => 0
/-- Where each block is, by its name, if blocks may be. -/
def placesGo (l : List Bk) : List Bk → Nat → List (ID × Int) → Option (List (ID × Int))
  | [], _, m => some m
  | b :: r, i, m => match findE m b.Parent with
    | none => none
    | some p => if b.Slot ≤ slotIx l p then none else match findE m (nm b) with
      | some _ => none
      | none => placesGo l r (i + 1) (m ++ [(nm b, (i : Int))])
def places (l : List Bk) : Option (List (ID × Int)) := placesGo l l 0 [((0, 0), -1)]
/-- What holds of a map of places. -/
structure PInv (l : List Bk) (m : List (ID × Int)) (n : Nat) : Prop where
  zero : findE m (0, 0) = some (-1)
  known : ∀ k i, findE m k = some i → (i = -1 ∧ k = (0, 0)) ∨ ∃ b p, 0 ≤ i ∧ i < n ∧ l[i.toNat]? = some b ∧ nm b = k ∧ findE m b.Parent = some p ∧ p < i ∧ -1 ≤ p ∧ slotIx l p < b.Slot
  names : ∀ i b, i < n → l[i]? = some b → findE m (nm b) = some (i : Int)
theorem PInv.step {l : List Bk} {m : List (ID × Int)} {n : Nat} {y : Bk} {p : Int} (h : PInv l m n) (hy : l[n]? = some y) (hp : findE m y.Parent = some p) (hs : ¬ y.Slot ≤ slotIx l p) (hq : findE m (nm y) = none) :
    PInv l (m ++ [(nm y, (n : Int))]) (n + 1) := by
  have old : ∀ k i, findE m k = some i → findE (m ++ [(nm y, (n : Int))]) k = some i := fun k i hk => by rw [findE_append, hk]; rfl
  refine ⟨old _ _ h.zero, fun k i hk => ?_, fun i b hi hb => ?_⟩
  · rw [findE_append] at hk
    rcases hm : findE m k with _ | j
    · rw [hm] at hk
      simp only [Option.none_or] at hk
      split at hk
      · rename_i e
        cases hk
        right
        refine ⟨y, p, by omega, by omega, by simpa using hy, e, old _ _ hp, ?_, ?_, by omega⟩
        · rcases h.known _ _ hp with ⟨h1, -⟩ | ⟨b, q, h1, h2, -⟩ <;> omega
        · rcases h.known _ _ hp with ⟨h1, -⟩ | ⟨b, q, h1, h2, -⟩ <;> omega
      · cases hk
    · rw [hm] at hk
      cases hk
      rcases h.known _ _ hm with h1 | ⟨b, q, h1, h2, h3, h4, h5, h6, h7, h8⟩
      · exact .inl h1
      · exact .inr ⟨b, q, h1, by omega, h3, h4, old _ _ h5, h6, h7, h8⟩
  · rcases Nat.lt_succ_iff_lt_or_eq.1 hi with hi | hi
    · exact old _ _ (h.names i b hi hb)
    · subst hi
      rw [hy] at hb; cases hb
      rw [findE_append, hq]; simp
open Go.Proofs
open Go.Proofs
theorem isInt {k : IntKind} {p : PV} (h : TIs (.int k) p) : ∃ n, p = .int k n ∧ InKind k n := by
  cases h with | int h => exact ⟨_, rfl, h⟩
open Go.Proofs
structure F46_L1 where
  t13 : Int
  out : List ID
open Go.Proofs
theorem ob {α β : Type} {x : α} {f : α → Option β} : (some x).bind f = f x := by
  have h : ∀ o : Option α, o = some x → o.bind f = f x := by intro o e; subst e; rfl
  exact h _ rfl
theorem ct {α : Sort _} {x y : α} : (bif true then x else y) = x := by
  have h : ∀ b : Bool, b = true → (bif b then x else y) = x := by intro o e; subst e; rfl
  exact h _ rfl
theorem cf {α : Sort _} {x y : α} : (bif false then x else y) = y := by
  have h : ∀ b : Bool, b = false → (bif b then x else y) = y := by intro o e; subst e; rfl
  exact h _ rfl
theorem sl {α β γ : Type} {f : α → γ} {g : β → γ} {x : α} : Sum.elim f g (.inl x) = f x := by
  have h : ∀ s : α ⊕ β, s = .inl x → Sum.elim f g s = f x := by intro o e; subst e; rfl
  exact h _ rfl
theorem sr {α β γ : Type} {f : α → γ} {g : β → γ} {x : β} : Sum.elim f g (.inr x) = g x := by
  have h : ∀ s : α ⊕ β, s = .inr x → Sum.elim f g s = g x := by intro o e; subst e; rfl
  exact h _ rfl
/-- A loop comes to its end, and what holds there. -/
theorem iter_inv {α β : Type} {step : α → Option (α ⊕ β)} (Inv : α → Prop) (m : α → Nat) (Post : β → Prop)
    (h : ∀ x, Inv x → (∃ y, step x = some (.inl y) ∧ Inv y ∧ m y < m x) ∨ ∃ b, step x = some (.inr b) ∧ Post b) : ∀ {n : Nat} {x : α}, Inv x → m x < n → ∃ b, iter step n x = some b ∧ Post b := by
  intro n
  induction n with
  | zero => intro x _ hn; omega
  | succ n ih =>
    intro x hx hn
    unfold iter
    rcases h x hx with ⟨y, h1, h2, h3⟩ | ⟨b, h1, h2⟩
    · rw [h1]; exact ih h2 (by omega)
    · rw [h1]; exact ⟨b, rfl, h2⟩
theorem ix_nat {α : Type} {l : List α} {n : Nat} {y : α} (h : l[n]? = some y) : ix l (n : Int) = some y := by
  unfold ix; rw [if_pos (by omega)]; simpa using h
theorem get_of {α : Type} {l : List α} {n : Nat} (h : n < l.length) : ∃ y, l[n]? = some y ∧ y ∈ l := ⟨l[n], List.getElem?_eq_getElem h, List.getElem_mem h⟩
theorem wrap_succ {n : Nat} (h : n < 4000000000) : IntKind.i64.wrap ((n : Int) + 1) = ((n + 1 : Nat) : Int) := by
  rw [wrapI (by omega) (by omega)]; omega
theorem room_ok {a b c : Nat} (h : a + b ≤ 1000000) (hc : c ≤ 1000) : room a b c = true := by
  have : (a + b) * (c + 1) ≤ 1000000 * 1001 := Nat.mul_le_mul h (by omega)
  exact decide_eq_true (by omega)
theorem big_gt {n : Nat} (h : n < 4000000000000000000) : n < big := by unfold big; omega
theorem isListO {α : Type} {f : α → PV} {O : α → Prop} {T : TS} (hf : ∀ p, TIs T p → ∃ a, p = f a ∧ O a) : ∀ {xs : List PV}, (∀ x ∈ xs, TIs T x) → ∃ l : List α, xs = l.map f ∧ ∀ a ∈ l, O a
  | [], _ => ⟨[], rfl, fun a h => by simp at h⟩
  | x :: xs, h => by
    obtain ⟨a, rfl, ha⟩ := hf x (h x (.head _))
    obtain ⟨l, rfl, hl⟩ := isListO hf fun y hy => h y (.tail _ hy)
    exact ⟨a :: l, rfl, fun b hb => by
      cases hb with
      | head => exact ha
      | tail _ hb => exact hl b hb⟩
theorem isSliceO {α : Type} {f : α → PV} {O : α → Prop} {T : TS} {m : Nat} (hf : ∀ p, TIs T p → ∃ a, p = f a ∧ O a) {p : PV} (h : TIs (.slice m T) p) : ∃ l : List α, p = .slice m (l.map f) ∧ ∀ a ∈ l, O a := by
  cases h with
  | slice h =>
    obtain ⟨l, rfl, hl⟩ := isListO hf h
    exact ⟨l, rfl, hl⟩
def CfOk (c : Cf) : Prop := (∀ w ∈ c.W, InKind .i64 w) ∧ InKind .u64 c.Seed ∧ InKind .i64 c.Epoch ∧ InKind .i64 c.Num ∧ InKind .i64 c.Den
theorem isIntO {k : IntKind} {f : Int → PV} (hf : ∀ n, f n = .int k n) {p : PV} (h : TIs (.int k) p) : ∃ n, p = f n ∧ InKind k n := by
  cases h with | int h => exact ⟨_, (hf _).symm, h⟩
theorem isInts {p : PV} (h : TIs (.slice 1 (.int .i64)) p) : ∃ l : List Int, p = .slice 1 (l.map i64P) ∧ ∀ a ∈ l, InKind .i64 a := isSliceO (fun _ h => isIntO (fun _ => rfl) h) h
theorem isCfO {p : PV} (h : TIs (.agg [.slice 1 (.int .i64), .int .u64, .int .i64, .int .i64, .int .i64]) p) : ∃ c : Cf, p = cfP c ∧ CfOk c := by
  cases h with | agg h =>
  cases h with | cons a h => cases h with | cons b h => cases h with | cons c h => cases h with | cons d h => cases h with | cons e h =>
    cases h
    obtain ⟨w, rfl, hw⟩ := isInts a
    cases b; cases c; cases d; cases e
    exact ⟨⟨w, _, _, _, _⟩, rfl, hw, by assumption, by assumption, by assumption, by assumption⟩
end Go.Mg
