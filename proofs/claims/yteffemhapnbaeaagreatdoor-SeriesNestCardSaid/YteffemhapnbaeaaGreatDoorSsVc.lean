/- Walks and laws that the claim's row needs. No conditions. -/
import Derived.Test.YteffemhapnbaeaaGreatDoorQaz
set_option maxHeartbeats 16000000
set_option linter.unusedSimpArgs false
set_option linter.unusedVariables false
namespace Go.Proofs.YteffemhapnbaeaaGreatDoor
open Go.RowKit Num
set_option maxRecDepth 100000
theorem Bil : Cz (Cu jPi) 479 12 = true := by decide +kernel
theorem Bim : Cz (Cu jPi) 491 12 = true := by decide +kernel
theorem Bin : Cz (Cu jPi) 503 12 = true := by decide +kernel
theorem Bio : Cz (Cu jPi) 515 11 = true := by decide +kernel
theorem Bip : Cz (Cu jPi) 526 11 = true := by decide +kernel
theorem Biq : Cz (Cu jPi) 537 11 = true := by decide +kernel
theorem Bir : Cz (Cu jPi) 548 11 = true := by decide +kernel
theorem Bis : Cz (Cu jPi) 559 11 = true := by decide +kernel
theorem Bit : Cz (Cu jPi) 570 10 = true := by decide +kernel
theorem Biu : Cz (Cu jPi) 580 10 = true := by decide +kernel
theorem Biv : Cz (Cu jPi) 590 10 = true := by decide +kernel
theorem Biw : Cz (Cu jPi) 600 1 = true := by decide +kernel
end Go.Proofs.YteffemhapnbaeaaGreatDoor
