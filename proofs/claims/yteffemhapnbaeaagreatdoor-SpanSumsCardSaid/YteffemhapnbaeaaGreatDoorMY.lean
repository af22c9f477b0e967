/- A text of ours, with only what the claim's row needs (wip/tools/shake.py). -/
import Derived.Deep.RegionHeld3
import Derived.Test.YteffemhapnbaeaaGreatDoorNI
import Derived.Test.YteffemhapnbaeaaGreatDoorMU
import Derived.Test.YteffemhapnbaeaaGreatDoorMM
namespace Go.Proofs.YteffemhapnbaeaaGreatDoor
open Go.RowKit Num
variable {tw : TypeId}
set_option linter.unusedSimpArgs false
set_option linter.unusedVariables false
set_option maxRecDepth 100000

end Go.Proofs.YteffemhapnbaeaaGreatDoor
namespace Go.Proofs.YteffemhapnbaeaaGreatDoor
open Go.RowKit Num
variable {tw : TypeId}
set_option linter.unusedSimpArgs false
set_option linter.unusedVariables false
set_option maxRecDepth 100000

theorem take_one (bad : Bool) (P : Int) (p q : Bool) (A A' : Option Addr) (n c n' c' : Nat) (xs ys : List Int) (e f : Int) : takeB bad P [(⟨p, A, n, c, xs, e, q, A', n', c', ys, f⟩ : SVal)] = (bad || decide (P < 1) || decide (8192 < P) || !rightS p q xs ys e f) := by
  unfold takeB SVal.right; simp
theorem take_true (P : Int) (l : List SVal) : takeB true P l = true := by unfold takeB; simp
theorem rightS_parts {p q : Bool} {xs ys : List Int} {e f : Int} (h : rightS p q xs ys e f = true) : plainB p xs e = true ∧ plainB q ys f = true := by
  unfold rightS bothB at h
  simp only [Bool.and_eq_true] at h
  exact ⟨h.1.1, h.1.2⟩
end Go.Proofs.YteffemhapnbaeaaGreatDoor
namespace Go.Proofs.YteffemhapnbaeaaGreatDoor
open Go.RowKit Num
set_option linter.unusedSimpArgs false
set_option linter.unusedVariables false
set_option maxRecDepth 100000

end Go.Proofs.YteffemhapnbaeaaGreatDoor
namespace Go.Proofs.YteffemhapnbaeaaGreatDoor
open Go.RowKit Num
set_option linter.unusedSimpArgs false
set_option linter.unusedVariables false
set_option maxRecDepth 100000

end Go.Proofs.YteffemhapnbaeaaGreatDoor
