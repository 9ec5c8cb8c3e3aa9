/- Laws of duties. Plain laws of duties: which confs may be, and sums of weights. Plain laws of duties: which confs may be; weights. Plain laws of duties: weights of lists; lists. Plain laws of duties: committees, proposers. Laws of duties. Conditions: none. -/
import Derived.Test.YtlhocfhoocmfiaaD1
import Derived.Test.YtlhocfhoocmfiaaS2
namespace Go.Mg
open Go.Proofs
/-- May a conf be? -/
def MayC (c : Cf) : Prop := 1 ≤ c.W.length ∧ c.W.length ≤ 12 ∧ (∀ w ∈ c.W, 0 ≤ w ∧ w ≤ 1099511627776) ∧ 1 ≤ c.Epoch ∧ c.Epoch ≤ 8 ∧ 0 ≤ c.Num ∧ c.Num ≤ c.Den ∧ 1 ≤ c.Den ∧ c.Den ≤ 1000
instance (c : Cf) : Decidable (MayC c) := inferInstanceAs (Decidable (_ ∧ _))
/-- Those of the first k that p lets in. -/
def pickL (p : Nat → Bool) : Nat → List Int
  | 0 => []
  | k + 1 => bif p k then pickL p k ++ [(k : Int)] else pickL p k
/-- A slot of a conf that may be. -/
def OkS (c : Cf) (slot : Int) : Prop := MayC c ∧ 0 < slot ∧ slot ≤ 1048576
instance (c : Cf) (slot : Int) : Decidable (OkS c slot) := inferInstanceAs (Decidable (_ ∧ _))
def seedOf (c : Cf) (slot : Int) : Int := step c.Seed (IntKind.u64.wrap (IntKind.i64.wrap (slot.tdiv c.Epoch)))
def inP (c : Cf) (slot : Int) (j : Nat) : Bool := (toA (seedOf c slot) (c.W.length : Int) (j : Int)).tmod c.Epoch == slot.tmod c.Epoch
/-- Who votes in a slot. -/
def cmP (c : Cf) (slot : Int) : List Int := if OkS c slot then pickL (inP c slot) c.W.length else []
/-- Who proposes. -/
def prP (c : Cf) (slot : Int) : Int := if OkS c slot then IntKind.i64.wrap ((step (step c.Seed 4294967296) (IntKind.u64.wrap slot)).tmod (IntKind.u64.wrap (c.W.length : Int))) else -1
def c0 : Cf := ⟨[5], 0, 1, 0, 4⟩
end Go.Mg
