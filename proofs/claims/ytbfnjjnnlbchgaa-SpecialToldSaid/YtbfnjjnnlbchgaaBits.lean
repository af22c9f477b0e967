/- The library's bit functions at this translation: Len64, LeadingZeros64, Mul64 off the shelf's layings; TrailingZeros64 under its table. -/
import Derived.Shelf.Small.Bits
import Derived.Shelf.Strconv.Itoa0
import Derived.Shelf.Bits.Mul64
import Derived.Shelf.Spec.TrailingZeros
import Derived.Lib.TrailingZeros
import Derived.Test.YtbfnjjnnlbchgaaMem
namespace Go.Proofs.Ytbfnjjnnlbchgaa
open Go.Shelf Go.RowKit

end Go.Proofs.Ytbfnjjnnlbchgaa
