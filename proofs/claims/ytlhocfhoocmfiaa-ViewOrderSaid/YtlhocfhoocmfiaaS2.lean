/- Plain laws of the shuffle. Plain laws of the shuffle: all places together. Conditions: none. -/
import Derived.Test.YtlhocfhoocmfiaaR1
import Derived.Test.YtlhocfhoocmfiaaS1
namespace Go.Mg
/-- A place of a shuffle. -/
def Pl (n i : Int) : Prop := 1 ≤ n ∧ n ≤ 1000 ∧ 0 ≤ i ∧ i < n
instance (n i : Int) : Decidable (Pl n i) := inferInstanceAs (Decidable (_ ∧ _))
/-- The first k rounds. -/
def rt (seed n i : Int) : Nat → Int
  | 0 => i
  | k + 1 => turnOf seed n k (rt seed n i k)
/-- Where a place goes. -/
def toA (seed n i : Int) : Int := rt seed n i 10
end Go.Mg
