/- Walks and laws that the claim's row needs. No conditions. -/
import Derived.Test.YteffemhapnbaeaaGreatDoorQaz
set_option maxHeartbeats 16000000
set_option linter.unusedSimpArgs false
set_option linter.unusedVariables false
namespace Go.Proofs.YteffemhapnbaeaaGreatDoor
open Go.RowKit Num
set_option maxRecDepth 100000
theorem Bhk : Cz (Ct jLn) 479 12 = true := by decide +kernel
theorem Bhl : Cz (Ct jLn) 491 12 = true := by decide +kernel
theorem Bhm : Cz (Ct jLn) 503 12 = true := by decide +kernel
theorem Bhn : Cz (Ct jLn) 515 11 = true := by decide +kernel
theorem Bho : Cz (Ct jLn) 526 11 = true := by decide +kernel
theorem Bhp : Cz (Ct jLn) 537 11 = true := by decide +kernel
theorem Bhq : Cz (Ct jLn) 548 11 = true := by decide +kernel
theorem Bhr : Cz (Ct jLn) 559 11 = true := by decide +kernel
theorem Bhs : Cz (Ct jLn) 570 10 = true := by decide +kernel
theorem Bht : Cz (Ct jLn) 580 10 = true := by decide +kernel
theorem Bhu : Cz (Ct jLn) 590 10 = true := by decide +kernel
theorem Bhv : Cz (Ct jLn) 600 1 = true := by decide +kernel
end Go.Proofs.YteffemhapnbaeaaGreatDoor
