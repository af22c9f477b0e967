/- A text of ours, with only what the claim's row needs (wip/tools/shake.py). -/
import Derived.Test.YteffemhapnbaeaaGreatDoorML
import Derived.Test.YteffemhapnbaeaaGreatDoorMM
import Derived.Test.YteffemhapnbaeaaGreatDoorMD
import Derived.Test.YteffemhapnbaeaaGreatDoorMK
namespace Go.Proofs.YteffemhapnbaeaaGreatDoor
open Go.RowKit Num
set_option maxRecDepth 100000

def sg (neg : Bool) : Int := if neg then 9223372036854775808 else 0
end Go.Proofs.YteffemhapnbaeaaGreatDoor
namespace Go.Proofs.YteffemhapnbaeaaGreatDoor
open Go.RowKit Num
set_option linter.unusedSimpArgs false
set_option linter.unusedVariables false
set_option maxRecDepth 100000

end Go.Proofs.YteffemhapnbaeaaGreatDoor
namespace Go.Proofs.YteffemhapnbaeaaGreatDoor
open Go.RowKit Num
set_option maxRecDepth 100000

theorem mkD_split (neg : Bool) {v e u : Int} {a : Nat} (h : v = pw a * u) (hu : u % 2 = 1) (h0 : 0 < u) (h1 : u < 18446744073709551616) (e0 : e ≤ 262144) (e1 : -262144 ≤ e + a) (e2 : e + a ≤ 262144) : mkD neg v e = some ⟨neg, u, e + a⟩ := by
  obtain ⟨t1, t2⟩ := odd_of_split h hu (by omega)
  have hp := pw_pos a
  have hv : v ≠ 0 := by
    have := Int.mul_pos hp h0
    omega
  unfold mkD
  rw [if_neg hv, t1, t2, if_neg (by omega), wd_small h0 h1, if_pos ⟨by simp, e2⟩]
end Go.Proofs.YteffemhapnbaeaaGreatDoor
namespace Go.Proofs.YteffemhapnbaeaaGreatDoor
open Go.RowKit Num
set_option maxRecDepth 100000

end Go.Proofs.YteffemhapnbaeaaGreatDoor
namespace Go.Proofs.YteffemhapnbaeaaGreatDoor
open Go.RowKit Num
set_option maxRecDepth 100000

end Go.Proofs.YteffemhapnbaeaaGreatDoor
