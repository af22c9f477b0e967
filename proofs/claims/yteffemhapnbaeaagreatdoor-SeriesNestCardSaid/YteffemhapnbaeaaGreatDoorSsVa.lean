/- Walks and laws that the claim's row needs. No conditions. -/
import Derived.Test.YteffemhapnbaeaaGreatDoorQaz
set_option maxHeartbeats 16000000
set_option linter.unusedSimpArgs false
set_option linter.unusedVariables false
namespace Go.Proofs.YteffemhapnbaeaaGreatDoor
open Go.RowKit Num
set_option maxRecDepth 100000
theorem pi_16 : Cz (Cu jPi) 16 54 = true := by decide +kernel
theorem pi_70 : Cz (Cu jPi) 70 40 = true := by decide +kernel
theorem Bi0 : Cz (Cu jPi) 110 33 = true := by decide +kernel
theorem Bi1 : Cz (Cu jPi) 143 29 = true := by decide +kernel
theorem Bi2 : Cz (Cu jPi) 172 26 = true := by decide +kernel
theorem Bi3 : Cz (Cu jPi) 198 24 = true := by decide +kernel
theorem Bi4 : Cz (Cu jPi) 222 22 = true := by decide +kernel
theorem Bi5 : Cz (Cu jPi) 244 21 = true := by decide +kernel
theorem Bi6 : Cz (Cu jPi) 265 19 = true := by decide +kernel
theorem Bi7 : Cz (Cu jPi) 284 18 = true := by decide +kernel
theorem Bi8 : Cz (Cu jPi) 302 17 = true := by decide +kernel
end Go.Proofs.YteffemhapnbaeaaGreatDoor
