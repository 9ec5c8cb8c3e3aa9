/- References of trees and cursors. The references of layer 6 tell what the program's trees tell: plain laws. Conditions: blocks' numbers are of their kinds; not too many blocks. Conditions: none. -/
import Derived.Test.YtlhocfhoocmfiaaL3
namespace Go.Mg
open Go.Proofs
structure F98_L1 where
  i : Int
structure F45_L1 where
  i : Int
def F167 (x : Int) (n : Int) : Option Int :=
  bif decide (0 ≤ n) then
    some (bits .xor .u64 x (x.fdiv (2 ^ (min (Int.toNat n) IntKind.u64.bits))))
  else none
set_option maxRecDepth 100000 in
theorem c167 {x : Int} {n : Int} {r_ : Int} (hr : F167 x n = some r_) : LPure Try.prog 167 [.int .u64 x, .int .u64 n] [.int .u64 r_] := by
  refine LPure.start Try.func167 rfl rfl rfl rfl ?_
  unfold F167 at hr
  refine LW.seq ?_
  refine LW.region ?_
  refine LOps.st rfl rfl rfl (LOp.assign rfl rfl) ?_
  refine LOps.nil ?_
  refine thn_n ?_
  refine LW.seq ?_
  refine LW.region ?_
  refine LOps.st rfl rfl rfl (LOp.move rfl rfl) ?_
  refine LOps.st rfl rfl rfl (LOp.move rfl rfl) ?_
  refine LOps.st rfl rfl rfl (LOp.move rfl rfl) ?_
  obtain ⟨q1, hr⟩ := grd_get hr
  refine LOps.st rfl rfl rfl (LOp.shr rfl rfl rfl (of_decide_eq_true q1)) ?_
  refine LOps.st rfl rfl rfl (LOp.bin rfl rfl rfl rfl) ?_
  refine LOps.st rfl rfl rfl (LOp.assign rfl rfl) ?_
  refine LOps.nil ?_
  refine thn_n ?_
  refine LW.ret ?_
  obtain rfl := Option.some.inj hr
  refine finP_ret (.one (.tmp rfl)) ?_
  exact Conv.p
def F149 (x : Int) : Option Int :=
  (F167 x 30).bind fun v1 =>
  (F167 (IntKind.u64.wrap (v1 * 13787848793156543929)) 27).bind fun v2 =>
  (F167 (IntKind.u64.wrap (v2 * 10723151780598845931)) 31).bind fun v3 =>
  some v3
set_option maxRecDepth 100000 in
theorem c149 {x : Int} {r_ : Int} (hr : F149 x = some r_) : LPure Try.prog 149 [.int .u64 x] [.int .u64 r_] := by
  refine LPure.start Try.func149 rfl rfl rfl rfl ?_
  unfold F149 at hr
  refine LW.seq ?_
  refine LW.region ?_
  refine LOps.st rfl rfl rfl (LOp.assign rfl rfl) ?_
  refine LOps.nil ?_
  refine thn_n ?_
  refine LW.seq ?_
  refine LW.region ?_
  refine LOps.st rfl rfl rfl (LOp.move rfl rfl) ?_
  obtain ⟨v1, h_v1, hr⟩ := bind_get hr
  refine LOps.st rfl rfl rfl (LOp.call rfl rfl rfl (by kernel_rfl) (LC.pure (c167 h_v1) (.cons Conv.p (.cons Conv.p .nil)))) ?_
  refine LOps.st rfl rfl rfl (LOp.bin rfl rfl rfl rfl) ?_
  refine LOps.st rfl rfl rfl (LOp.assign rfl rfl) ?_
  refine LOps.nil ?_
  refine thn_n ?_
  refine LW.seq ?_
  refine LW.region ?_
  refine LOps.st rfl rfl rfl (LOp.move rfl rfl) ?_
  obtain ⟨v2, h_v2, hr⟩ := bind_get hr
  refine LOps.st rfl rfl rfl (LOp.call rfl rfl rfl (by kernel_rfl) (LC.pure (c167 h_v2) (.cons Conv.p (.cons Conv.p .nil)))) ?_
  refine LOps.st rfl rfl rfl (LOp.bin rfl rfl rfl rfl) ?_
  refine LOps.st rfl rfl rfl (LOp.assign rfl rfl) ?_
  refine LOps.nil ?_
  refine thn_n ?_
  refine LW.seq ?_
  refine LW.region ?_
  refine LOps.st rfl rfl rfl (LOp.move rfl rfl) ?_
  obtain ⟨v3, h_v3, hr⟩ := bind_get hr
  refine LOps.st rfl rfl rfl (LOp.call rfl rfl rfl (by kernel_rfl) (LC.pure (c167 h_v3) (.cons Conv.p (.cons Conv.p .nil)))) ?_
  refine LOps.st rfl rfl rfl (LOp.assign rfl rfl) ?_
  refine LOps.nil ?_
  refine thn_n ?_
  refine LW.ret ?_
  obtain rfl := Option.some.inj hr
  refine finP_ret (.one (.tmp rfl)) ?_
  exact Conv.p
def F115 (h : Int) (x : Int) : Option Int :=
  (F149 (IntKind.u64.wrap ((bits .xor .u64 h x) + 11400714819323198485))).bind fun v1 =>
  some v1
set_option maxRecDepth 100000 in
theorem c115 {h : Int} {x : Int} {r_ : Int} (hr : F115 h x = some r_) : LPure Try.prog 115 [.int .u64 h, .int .u64 x] [.int .u64 r_] := by
  refine LPure.start Try.func115 rfl rfl rfl rfl ?_
  unfold F115 at hr
  refine LW.seq ?_
  refine LW.region ?_
  refine LOps.st rfl rfl rfl (LOp.assign rfl rfl) ?_
  refine LOps.nil ?_
  refine thn_n ?_
  refine LW.seq ?_
  refine LW.region ?_
  refine LOps.st rfl rfl rfl (LOp.move rfl rfl) ?_
  refine LOps.st rfl rfl rfl (LOp.move rfl rfl) ?_
  refine LOps.st rfl rfl rfl (LOp.bin rfl rfl rfl rfl) ?_
  refine LOps.st rfl rfl rfl (LOp.bin rfl rfl rfl rfl) ?_
  obtain ⟨v1, h_v1, hr⟩ := bind_get hr
  refine LOps.st rfl rfl rfl (LOp.call rfl rfl rfl (by kernel_rfl) (LC.pure (c149 h_v1) (.cons Conv.p .nil))) ?_
  refine LOps.st rfl rfl rfl (LOp.assign rfl rfl) ?_
  refine LOps.nil ?_
  refine thn_n ?_
  refine LW.ret ?_
  obtain rfl := Option.some.inj hr
  refine finP_ret (.one (.tmp rfl)) ?_
  exact Conv.p
structure F100_L1 where
  a : Int
  b : Int
  i : Int
structure F97_L1 where
  i : Int
  out : List ID
structure F96_L1 where
  i : Int
structure F47_L1 where
  i : Int
  out : List ID
structure F48_L1 where
  i : Int
  id : ID
  out : List ID
theorem inKind_bits (op : BinOp) (k : IntKind) (a b : Int) : InKind k (bits op k a b) := inKind_wrap k _
theorem word_in (x : Int) : InKind .u64 (word x) := inKind_bits .xor .u64 _ _
theorem step_in (h x : Int) : InKind .u64 (step h x) := word_in _
theorem F115_eq (h x : Int) : F115 h x = some (step h x) := rfl
end Go.Mg
