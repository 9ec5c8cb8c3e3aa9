/- Weights of blocks, heads: what stands alone, and the reference. Weights of blocks; the head. Plain laws of weights on blocks, and of the head: the program's side. Laws of trees. TreeKids, TreeMore: plain. Conditions: none. -/
import Derived.Test.YtlhocfhoocmfiaaD1
import Derived.Test.YtlhocfhoocmfiaaS1
import Derived.Test.YtlhocfhoocmfiaaD2
import Derived.Test.YtlhocfhoocmfiaaL3
namespace Go.Mg
open Go.Proofs
structure F151_L1 where
  t11 : Int
structure F155_L1 where
  i : Int
  out : List ID
structure F169_L1 where
  i : Int
  id : ID
structure F156_L1 where
  i : Int
  who : List Int
structure F124_L1 where
  most : Int
  i : Int
  best : ID
structure F82_L1 where
  i : Int
  id : ID
open Go.Proofs
structure F153_L1 where
  t12 : Int
  o3 : List (ID × Bool)
  out : List Int
structure F79_L1 where
  t19 : Int
  best : Rk
structure F81_L1 where
  id : ID
open Go.Proofs
structure F10_L1 where
  i : Int
structure F10_L2 where
  v_is : Bool
  j : Int
structure F13_L1 where
  n : Int
  i : Int
end Go.Mg
