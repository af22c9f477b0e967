/- The walks of dyad's first functions. -/
import Derived.Test.YtbfnjjnnlbchgaaNatB
namespace Go.Proofs.Ytbfnjjnnlbchgaa
open Go.RowKit Num
set_option maxRecDepth 100000

