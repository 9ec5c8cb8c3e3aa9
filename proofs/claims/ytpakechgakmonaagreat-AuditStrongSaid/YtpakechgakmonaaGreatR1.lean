/- References of trees and cursors. The references of layer 6 tell what the program's trees tell: plain laws. Conditions: blocks' numbers are of their kinds; not too many blocks. Conditions: none. -/
import Derived.Test.YtpakechgakmonaaGreatL3
namespace Go.Mg
open Go.Proofs
end Go.Mg
