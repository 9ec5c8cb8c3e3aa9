/- Laws of views. Laws of views: ViewOnly, ViewJoin. Laws of views. Laws of views. Laws of views: ViewMay, ViewKeeps. Conditions: none. -/
import Derived.Test.YtlhocfhoocmfiaaV2
import Derived.Test.YtlhocfhoocmfiaaV3
namespace Go.Mg
open Go.Proofs
structure F29_L1 where
  n : Int
  i : Int
structure F29_L2 where
  n : Int
  i : Int
theorem filter_len_snoc {α : Type} {p : α → Bool} {l : List α} {n : Nat} {y : α} (hy : l[n]? = some y) : ((l.take (n + 1)).filter p).length = ((l.take n).filter p).length + bif p y then 1 else 0 := by
  rw [filter_take_snoc hy, List.length_append]
  cases p y <;> rfl
theorem join_len (a b : Vw) : a.B.length ≤ (joinP a b).B.length ∧ a.V.length ≤ (joinP a b).V.length ∧ (joinP a b).B.length ≤ a.B.length + b.B.length ∧ (joinP a b).V.length ≤ a.V.length + b.V.length :=
  ⟨withP_len_ge _ _, withP_len_ge _ _, withP_len _ _, withP_len _ _⟩
open Go.Proofs
structure F30_L1 where
  i : Int
structure F30_L2 where
  i : Int
open Go.Proofs
end Go.Mg
