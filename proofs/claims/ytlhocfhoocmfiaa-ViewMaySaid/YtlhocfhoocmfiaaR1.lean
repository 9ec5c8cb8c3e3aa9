/- References of trees and cursors. The references of layer 6 tell what the program's trees tell: plain laws. Conditions: blocks' numbers are of their kinds; not too many blocks. Conditions: none. -/
import Derived.Test.YtlhocfhoocmfiaaL3
namespace Go.Mg
open Go.Proofs
structure F98_L1 where
  i : Int
structure F45_L1 where
  i : Int
structure F100_L1 where
  a : Int
  b : Int
  i : Int
structure F97_L1 where
  i : Int
  out : List ID
structure F96_L1 where
  i : Int
structure F47_L1 where
  i : Int
  out : List ID
structure F48_L1 where
  i : Int
  id : ID
  out : List ID
end Go.Mg
