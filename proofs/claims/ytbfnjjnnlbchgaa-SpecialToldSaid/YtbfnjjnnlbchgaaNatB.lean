/- The walks of nat's shifts. -/
import Derived.Test.YtbfnjjnnlbchgaaNatA
namespace Go.Proofs.Ytbfnjjnnlbchgaa
open Go.RowKit Num
set_option maxRecDepth 100000

def maxShift : Int := 1048576
/-- A shift down, where it may be asked. -/
def shrI (v n : Int) : Int := if 0 ≤ n ∧ n ≤ maxShift then v / 2 ^ n.toNat else 0
end Go.Proofs.Ytbfnjjnnlbchgaa
