/- Walks and laws that the claim's row needs. No conditions. -/
import Derived.Test.YteffemhapnbaeaaGreatDoorQaz
set_option maxHeartbeats 16000000
set_option linter.unusedSimpArgs false
set_option linter.unusedVariables false
namespace Go.Proofs.YteffemhapnbaeaaGreatDoor
open Go.RowKit Num
set_option maxRecDepth 100000
theorem ln_16 : Cz (Ct jLn) 16 54 = true := by decide +kernel
theorem ln_70 : Cz (Ct jLn) 70 40 = true := by decide +kernel
theorem Bgz : Cz (Ct jLn) 110 33 = true := by decide +kernel
theorem Bh0 : Cz (Ct jLn) 143 29 = true := by decide +kernel
theorem Bh1 : Cz (Ct jLn) 172 26 = true := by decide +kernel
theorem Bh2 : Cz (Ct jLn) 198 24 = true := by decide +kernel
theorem Bh3 : Cz (Ct jLn) 222 22 = true := by decide +kernel
theorem Bh4 : Cz (Ct jLn) 244 21 = true := by decide +kernel
theorem Bh5 : Cz (Ct jLn) 265 19 = true := by decide +kernel
theorem Bh6 : Cz (Ct jLn) 284 18 = true := by decide +kernel
theorem Bh7 : Cz (Ct jLn) 302 17 = true := by decide +kernel
end Go.Proofs.YteffemhapnbaeaaGreatDoor
