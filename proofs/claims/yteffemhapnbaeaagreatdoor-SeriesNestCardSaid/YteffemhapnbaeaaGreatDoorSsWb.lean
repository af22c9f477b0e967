/- Walks and laws that the claim's row needs. No conditions. -/
import Derived.Test.YteffemhapnbaeaaGreatDoorQaz
set_option maxHeartbeats 16000000
set_option linter.unusedSimpArgs false
set_option linter.unusedVariables false
namespace Go.Proofs.YteffemhapnbaeaaGreatDoor
open Go.RowKit Num
set_option maxRecDepth 100000
theorem Bh8 : Cz (Ct jLn) 319 17 = true := by decide +kernel
theorem Bh9 : Cz (Ct jLn) 336 16 = true := by decide +kernel
theorem Bha : Cz (Ct jLn) 352 16 = true := by decide +kernel
theorem Bhb : Cz (Ct jLn) 368 15 = true := by decide +kernel
theorem Bhc : Cz (Ct jLn) 383 15 = true := by decide +kernel
theorem Bhd : Cz (Ct jLn) 398 14 = true := by decide +kernel
theorem Bhe : Cz (Ct jLn) 412 14 = true := by decide +kernel
theorem Bhf : Cz (Ct jLn) 426 13 = true := by decide +kernel
theorem Bhg : Cz (Ct jLn) 439 13 = true := by decide +kernel
theorem Bhh : Cz (Ct jLn) 452 13 = true := by decide +kernel
theorem Bhi : Cz (Ct jLn) 465 12 = true := by decide +kernel
theorem Bhj : Cz (Ct jLn) 477 2 = true := by decide +kernel
end Go.Proofs.YteffemhapnbaeaaGreatDoor
