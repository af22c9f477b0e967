/- The walks of nat's first functions. -/
import Derived.Test.YtbfnjjnnlbchgaaMem
import Derived.Test.YtbfnjjnnlbchgaaBits
namespace Go.Proofs.Ytbfnjjnnlbchgaa
open Go.RowKit Num
set_option maxRecDepth 100000

theorem cmpI_lt {x y : Int} (h : x < y) : cmpI x y = -1 := by rw [cmpI, if_pos h]
theorem cmpI_eq {x y : Int} (h : x = y) : cmpI x y = 0 := by rw [cmpI, if_neg (by omega), if_pos h]
theorem cmpI_gt {x y : Int} (h : y < x) : cmpI x y = 1 := by rw [cmpI, if_neg (by omega), if_neg (by omega)]
end Go.Proofs.Ytbfnjjnnlbchgaa
