/- Walks and laws that the claim's row needs. No conditions. -/
import Derived.Test.YteffemhapnbaeaaGreatDoorSsVa
import Derived.Test.YteffemhapnbaeaaGreatDoorSsVb
import Derived.Test.YteffemhapnbaeaaGreatDoorSsVc
set_option maxHeartbeats 16000000
set_option linter.unusedSimpArgs false
set_option linter.unusedVariables false
namespace Go.Proofs.YteffemhapnbaeaaGreatDoor
open Go.RowKit Num
set_option maxRecDepth 100000
theorem Bix {p : Nat} (h0 : 16 ≤ p) (h1 : p ≤ 600) : Cu jPi p = true := by
 by_cases h16 : p < 70
 ·exact Bs pi_16 (by omega) (by omega)
 by_cases h70 : p < 110
 ·exact Bs pi_70 (by omega) (by omega)
 by_cases h110 : p < 143
 ·exact Bs Bi0 (by omega) (by omega)
 by_cases h143 : p < 172
 ·exact Bs Bi1 (by omega) (by omega)
 by_cases h172 : p < 198
 ·exact Bs Bi2 (by omega) (by omega)
 by_cases h198 : p < 222
 ·exact Bs Bi3 (by omega) (by omega)
 by_cases h222 : p < 244
 ·exact Bs Bi4 (by omega) (by omega)
 by_cases h244 : p < 265
 ·exact Bs Bi5 (by omega) (by omega)
 by_cases h265 : p < 284
 ·exact Bs Bi6 (by omega) (by omega)
 by_cases h284 : p < 302
 ·exact Bs Bi7 (by omega) (by omega)
 by_cases h302 : p < 319
 ·exact Bs Bi8 (by omega) (by omega)
 by_cases h319 : p < 336
 ·exact Bs Bi9 (by omega) (by omega)
 by_cases h336 : p < 352
 ·exact Bs Bia (by omega) (by omega)
 by_cases h352 : p < 368
 ·exact Bs Bib (by omega) (by omega)
 by_cases h368 : p < 383
 ·exact Bs Bic (by omega) (by omega)
 by_cases h383 : p < 398
 ·exact Bs Bid (by omega) (by omega)
 by_cases h398 : p < 412
 ·exact Bs Bie (by omega) (by omega)
 by_cases h412 : p < 426
 ·exact Bs Bif (by omega) (by omega)
 by_cases h426 : p < 439
 ·exact Bs Big (by omega) (by omega)
 by_cases h439 : p < 452
 ·exact Bs Bih (by omega) (by omega)
 by_cases h452 : p < 465
 ·exact Bs Bii (by omega) (by omega)
 by_cases h465 : p < 477
 ·exact Bs Bij (by omega) (by omega)
 by_cases h477 : p < 479
 ·exact Bs Bik (by omega) (by omega)
 by_cases h479 : p < 491
 ·exact Bs Bil (by omega) (by omega)
 by_cases h491 : p < 503
 ·exact Bs Bim (by omega) (by omega)
 by_cases h503 : p < 515
 ·exact Bs Bin (by omega) (by omega)
 by_cases h515 : p < 526
 ·exact Bs Bio (by omega) (by omega)
 by_cases h526 : p < 537
 ·exact Bs Bip (by omega) (by omega)
 by_cases h537 : p < 548
 ·exact Bs Biq (by omega) (by omega)
 by_cases h548 : p < 559
 ·exact Bs Bir (by omega) (by omega)
 by_cases h559 : p < 570
 ·exact Bs Bis (by omega) (by omega)
 by_cases h570 : p < 580
 ·exact Bs Bit (by omega) (by omega)
 by_cases h580 : p < 590
 ·exact Bs Biu (by omega) (by omega)
 by_cases h590 : p < 600
 ·exact Bs Biv (by omega) (by omega)
 exact Bs Biw (by omega) (by omega)
theorem Yn {p : Nat} (h0 : 16 ≤ p) (h1 : p ≤ 600) : Ask jPi.d p (piS p) (piR (p + 100)) := Bbw jPi_good (by omega) (by omega) (Bix h0 h1)
end Go.Proofs.YteffemhapnbaeaaGreatDoor
