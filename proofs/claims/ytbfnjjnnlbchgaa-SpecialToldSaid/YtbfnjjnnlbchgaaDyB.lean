/- dyad.Plain and dyad.Make. -/
import Derived.Test.YtbfnjjnnlbchgaaDyA
namespace Go.Proofs.Ytbfnjjnnlbchgaa
open Go.RowKit Num
set_option maxRecDepth 100000

end Go.Proofs.Ytbfnjjnnlbchgaa
