/- Walks and laws that the claim's row needs. No conditions. -/
import Derived.Test.YteffemhapnbaeaaGreatDoorSsWa
import Derived.Test.YteffemhapnbaeaaGreatDoorSsWb
import Derived.Test.YteffemhapnbaeaaGreatDoorSsWc
set_option maxHeartbeats 16000000
set_option linter.unusedSimpArgs false
set_option linter.unusedVariables false
namespace Go.Proofs.YteffemhapnbaeaaGreatDoor
open Go.RowKit Num
set_option maxRecDepth 100000
theorem Bhw {p : Nat} (h0 : 16 ≤ p) (h1 : p ≤ 600) : Ct jLn p = true := by
 by_cases h16 : p < 70
 ·exact Bs ln_16 (by omega) (by omega)
 by_cases h70 : p < 110
 ·exact Bs ln_70 (by omega) (by omega)
 by_cases h110 : p < 143
 ·exact Bs Bgz (by omega) (by omega)
 by_cases h143 : p < 172
 ·exact Bs Bh0 (by omega) (by omega)
 by_cases h172 : p < 198
 ·exact Bs Bh1 (by omega) (by omega)
 by_cases h198 : p < 222
 ·exact Bs Bh2 (by omega) (by omega)
 by_cases h222 : p < 244
 ·exact Bs Bh3 (by omega) (by omega)
 by_cases h244 : p < 265
 ·exact Bs Bh4 (by omega) (by omega)
 by_cases h265 : p < 284
 ·exact Bs Bh5 (by omega) (by omega)
 by_cases h284 : p < 302
 ·exact Bs Bh6 (by omega) (by omega)
 by_cases h302 : p < 319
 ·exact Bs Bh7 (by omega) (by omega)
 by_cases h319 : p < 336
 ·exact Bs Bh8 (by omega) (by omega)
 by_cases h336 : p < 352
 ·exact Bs Bh9 (by omega) (by omega)
 by_cases h352 : p < 368
 ·exact Bs Bha (by omega) (by omega)
 by_cases h368 : p < 383
 ·exact Bs Bhb (by omega) (by omega)
 by_cases h383 : p < 398
 ·exact Bs Bhc (by omega) (by omega)
 by_cases h398 : p < 412
 ·exact Bs Bhd (by omega) (by omega)
 by_cases h412 : p < 426
 ·exact Bs Bhe (by omega) (by omega)
 by_cases h426 : p < 439
 ·exact Bs Bhf (by omega) (by omega)
 by_cases h439 : p < 452
 ·exact Bs Bhg (by omega) (by omega)
 by_cases h452 : p < 465
 ·exact Bs Bhh (by omega) (by omega)
 by_cases h465 : p < 477
 ·exact Bs Bhi (by omega) (by omega)
 by_cases h477 : p < 479
 ·exact Bs Bhj (by omega) (by omega)
 by_cases h479 : p < 491
 ·exact Bs Bhk (by omega) (by omega)
 by_cases h491 : p < 503
 ·exact Bs Bhl (by omega) (by omega)
 by_cases h503 : p < 515
 ·exact Bs Bhm (by omega) (by omega)
 by_cases h515 : p < 526
 ·exact Bs Bhn (by omega) (by omega)
 by_cases h526 : p < 537
 ·exact Bs Bho (by omega) (by omega)
 by_cases h537 : p < 548
 ·exact Bs Bhp (by omega) (by omega)
 by_cases h548 : p < 559
 ·exact Bs Bhq (by omega) (by omega)
 by_cases h559 : p < 570
 ·exact Bs Bhr (by omega) (by omega)
 by_cases h570 : p < 580
 ·exact Bs Bhs (by omega) (by omega)
 by_cases h580 : p < 590
 ·exact Bs Bht (by omega) (by omega)
 by_cases h590 : p < 600
 ·exact Bs Bhu (by omega) (by omega)
 exact Bs Bhv (by omega) (by omega)
theorem Ym {p : Nat} (h0 : 16 ≤ p) (h1 : p ≤ 600) : Ask jLn.d p (Bde p) (Bdd (p + 100)) := Bbv jLn_good (by omega) (by omega) (Bhw h0 h1)
end Go.Proofs.YteffemhapnbaeaaGreatDoor
