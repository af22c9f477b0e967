/- Walks and laws that the claim's row needs. No conditions. -/
import Derived.Test.YteffemhapnbaeaaGreatDoorQaz
set_option maxHeartbeats 16000000
set_option linter.unusedSimpArgs false
set_option linter.unusedVariables false
namespace Go.Proofs.YteffemhapnbaeaaGreatDoor
open Go.RowKit Num
set_option maxRecDepth 100000
theorem Bi9 : Cz (Cu jPi) 319 17 = true := by decide +kernel
theorem Bia : Cz (Cu jPi) 336 16 = true := by decide +kernel
theorem Bib : Cz (Cu jPi) 352 16 = true := by decide +kernel
theorem Bic : Cz (Cu jPi) 368 15 = true := by decide +kernel
theorem Bid : Cz (Cu jPi) 383 15 = true := by decide +kernel
theorem Bie : Cz (Cu jPi) 398 14 = true := by decide +kernel
theorem Bif : Cz (Cu jPi) 412 14 = true := by decide +kernel
theorem Big : Cz (Cu jPi) 426 13 = true := by decide +kernel
theorem Bih : Cz (Cu jPi) 439 13 = true := by decide +kernel
theorem Bii : Cz (Cu jPi) 452 13 = true := by decide +kernel
theorem Bij : Cz (Cu jPi) 465 12 = true := by decide +kernel
theorem Bik : Cz (Cu jPi) 477 2 = true := by decide +kernel
end Go.Proofs.YteffemhapnbaeaaGreatDoor
