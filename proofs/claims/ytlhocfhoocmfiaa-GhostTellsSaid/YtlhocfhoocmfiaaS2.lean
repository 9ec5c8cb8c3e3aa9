/- Plain laws of the shuffle. Plain laws of the shuffle: all places together. Conditions: none. -/
import Derived.Test.YtlhocfhoocmfiaaR1
import Derived.Test.YtlhocfhoocmfiaaS1
namespace Go.Mg
/-- A place of a shuffle. -/
def Pl (n i : Int) : Prop := 1 ≤ n ∧ n ≤ 1000 ∧ 0 ≤ i ∧ i < n
instance (n i : Int) : Decidable (Pl n i) := inferInstanceAs (Decidable (_ ∧ _))
theorem beqt {a b : Int} (h : a = b) : (a == b) = true := by simp [h]
end Go.Mg
