/- dyad.Sum. -/
import Derived.Test.YteffemhapnbaeaaDoorMN
import Derived.Test.YteffemhapnbaeaaDoorME
import Derived.Test.YteffemhapnbaeaaDoorML
namespace Go.Proofs.YteffemhapnbaeaaDoor
open Go.RowKit Num
set_option maxRecDepth 100000

end Go.Proofs.YteffemhapnbaeaaDoor
