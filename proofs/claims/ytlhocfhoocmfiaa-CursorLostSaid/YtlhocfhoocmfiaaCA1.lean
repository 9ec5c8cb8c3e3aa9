/- The mixing functions. Conditions: none. -/
import Derived.Test.YtlhocfhoocmfiaaFA
namespace Go.Mg
open Go.Proofs

/-- What mix.Word does. -/
def word (x : Int) : Int :=
  let a := IntKind.u64.wrap (bits .xor .u64 x (x.fdiv (2 ^ (min (Int.toNat 30) IntKind.u64.bits))) * 13787848793156543929)
  let b := IntKind.u64.wrap (bits .xor .u64 a (a.fdiv (2 ^ (min (Int.toNat 27) IntKind.u64.bits))) * 10723151780598845931)
  bits .xor .u64 b (b.fdiv (2 ^ (min (Int.toNat 31) IntKind.u64.bits)))

def step (h x : Int) : Int := word (IntKind.u64.wrap (bits .xor .u64 h x + 11400714819323198485))

/-- The complement of a word. -/
def inv (x : Int) : Int := bits .xor .u64 (if IntKind.u64.signed then -1 else IntKind.u64.max) x

set_option maxRecDepth 100000 in
theorem c146 {x : Int} : LPure Try.prog 146 [.int .u64 x] [.int .u64 (word x)] := by
  refine LPure.start Try.func146 rfl rfl rfl rfl ?_
  refine LW.seq ?_
  refine LW.region ?_
  refine LOps.st rfl rfl rfl (LOp.assign rfl rfl) ?_
  refine LOps.nil ?_
  refine thn_n ?_
  refine LW.seq ?_
  refine LW.region ?_
  refine LOps.st rfl rfl rfl (LOp.move rfl rfl) ?_
  refine LOps.st rfl rfl rfl (LOp.move rfl rfl) ?_
  refine LOps.st rfl rfl rfl (LOp.shr rfl rfl rfl (by decide)) ?_
  refine LOps.st rfl rfl rfl (LOp.bin rfl rfl rfl rfl) ?_
  refine LOps.st rfl rfl rfl (LOp.bin rfl rfl rfl rfl) ?_
  refine LOps.st rfl rfl rfl (LOp.assign rfl rfl) ?_
  refine LOps.nil ?_
  refine thn_n ?_
  refine LW.seq ?_
  refine LW.region ?_
  refine LOps.st rfl rfl rfl (LOp.move rfl rfl) ?_
  refine LOps.st rfl rfl rfl (LOp.move rfl rfl) ?_
  refine LOps.st rfl rfl rfl (LOp.shr rfl rfl rfl (by decide)) ?_
  refine LOps.st rfl rfl rfl (LOp.bin rfl rfl rfl rfl) ?_
  refine LOps.st rfl rfl rfl (LOp.bin rfl rfl rfl rfl) ?_
  refine LOps.st rfl rfl rfl (LOp.assign rfl rfl) ?_
  refine LOps.nil ?_
  refine thn_n ?_
  refine LW.seq ?_
  refine LW.region ?_
  refine LOps.st rfl rfl rfl (LOp.move rfl rfl) ?_
  refine LOps.st rfl rfl rfl (LOp.move rfl rfl) ?_
  refine LOps.st rfl rfl rfl (LOp.shr rfl rfl rfl (by decide)) ?_
  refine LOps.st rfl rfl rfl (LOp.bin rfl rfl rfl rfl) ?_
  refine LOps.st rfl rfl rfl (LOp.assign rfl rfl) ?_
  refine LOps.nil ?_
  refine thn_n ?_
  refine LW.ret ?_
  refine finP_ret (.one (.tmp rfl)) ?_
  exact Conv.p

set_option maxRecDepth 100000 in
theorem c108 {h x : Int} : LPure Try.prog 108 [.int .u64 h, .int .u64 x] [.int .u64 (step h x)] := by
  refine LPure.start Try.func108 rfl rfl rfl rfl ?_
  refine LW.seq ?_
  refine LW.region ?_
  refine LOps.st rfl rfl rfl (LOp.assign rfl rfl) ?_
  refine LOps.nil ?_
  refine thn_n ?_
  refine LW.seq ?_
  refine LW.region ?_
  refine LOps.st rfl rfl rfl (LOp.move rfl rfl) ?_
  refine LOps.st rfl rfl rfl (LOp.move rfl rfl) ?_
  refine LOps.st rfl rfl rfl (LOp.bin rfl rfl rfl rfl) ?_
  refine LOps.st rfl rfl rfl (LOp.bin rfl rfl rfl rfl) ?_
  refine LOps.st rfl rfl rfl (LOp.call rfl rfl rfl (by kernel_rfl) (LC.pure c146 (.cons Conv.p .nil))) ?_
  refine LOps.st rfl rfl rfl (LOp.assign rfl rfl) ?_
  refine LOps.nil ?_
  refine thn_n ?_
  refine LW.ret ?_
  refine finP_ret (.one (.tmp rfl)) ?_
  exact Conv.p

set_option maxRecDepth 100000 in
theorem c143 {x a b : Int} {id : Nat} {H H' : List LObj} (hH : nth H id = some (.box [.p (.int .u64 a), .p (.int .u64 b)])) (hH' : setC H id (.box [.p (.int .u64 (step a x)), .p (.int .u64 (step b (inv x)))]) = some H') : LC Try.prog 143 [.p (.int .u64 x), .ptr id 0] H (Is (.tup []) H') := by
  refine LC.start Try.func143 rfl rfl rfl ?_
  refine LW.drawLast (m := 10) (by kernel_rfl) (by kernel_rfl) (by kernel_rfl) ?_
  refine LO.st rfl rfl rfl (LOp.indexAddrA rfl rfl rfl at24 (by decide) (by decide)) ?_
  refine LO.st rfl rfl rfl (LOp.load rfl rfl hH vt22 rfl rfl) ?_
  refine LO.st rfl rfl rfl (LOp.move rfl rfl) ?_
  refine LO.st rfl rfl rfl (LOp.call rfl rfl rfl (by kernel_rfl) (LC.pure c108 (.cons Conv.p (.cons Conv.p .nil)))) ?_
  refine LO.st rfl rfl rfl (LOp.indexAddrA rfl rfl rfl at24 (by decide) (by decide)) ?_
  refine LO.st rfl rfl rfl (LOp.load rfl rfl hH vt22 rfl rfl) ?_
  refine LO.st rfl rfl rfl (LOp.move rfl rfl) ?_
  refine LO.st rfl rfl rfl (LOp.compl rfl rfl) ?_
  refine LO.st rfl rfl rfl (LOp.call rfl rfl rfl (by kernel_rfl) (LC.pure c108 (.cons Conv.p (.cons Conv.p .nil)))) ?_
  refine LO.st rfl rfl rfl (LOp.build rfl bt24 rfl rfl rfl) ?_
  refine LO.nil ?_
  refine LOps.st rfl rfl rfl (LOp.store rfl rfl rfl hH vt24 rfl rfl rfl hH') ?_
  refine LOps.nil ?_
  refine fin_end .none ?_
  exact ⟨rfl, rfl⟩

end Go.Mg
