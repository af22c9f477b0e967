/- A text of ours, with only what the claim's row needs (wip/tools/shake.py). -/
import Derived.Test.YteffemhapnbaeaaGreatDoorMO
import Derived.Test.YteffemhapnbaeaaGreatDoorMQ
import Derived.Test.YteffemhapnbaeaaGreatDoorMP
namespace Go.Proofs.YteffemhapnbaeaaGreatDoor
open Go.RowKit Num
set_option linter.unusedSimpArgs false
set_option linter.unusedVariables false
set_option maxRecDepth 100000

theorem bl_one : bl 1 = 1 := bl_unique (v := 1) (a := 0) (by decide) (by decide)
theorem bl_three : bl 3 = 2 := bl_unique (v := 3) (a := 1) (by decide) (by decide)
theorem bl_21 : bl 21 = 5 := bl_unique (v := 21) (a := 4) (by decide) (by decide)
theorem over_one_three : overD false false [1] [3] 0 0 3 false = some ⟨false, 5, -4⟩ := by
  have p1 : plainB false [1] 0 = true := by decide
  have p2 : plainB false [3] 0 = true := by decide
  have p3 : rightB 3 = true := by decide
  have v1 : val [1] = 1 := val_one 1
  have v3 : val [3] = 3 := val_one 3
  have k : overK 1 3 3 = 6 := by unfold overK; rw [bl_one, bl_three]; decide
  unfold overD
  rw [p1, p2, p3, v1, v3, k]
  have e1 : (1 : Int) * 2 ^ 6 / 3 = 21 := by decide
  have e2 : decide ((1 : Int) * 2 ^ 6 % 3 ≠ 0) = true := by decide
  rw [e1, e2]
  simp only [Bool.and_self, Bool.true_and, List.length_singleton, ne_eq, Nat.succ_ne_self, not_false_eq_true, decide_true, if_true]
  unfold cutD cutQ cutR
  rw [bl_21]
  have e3 : (5 : Int) - 3 = 2 := by decide
  rw [e3]
  have e4 : (21 : Int) / 2 ^ (2 : Int).toNat = 5 := by decide
  rw [if_neg (by decide), if_pos (by decide), if_pos (by decide), e4]
  have := mkD_split false (v := 5) (e := -4) (u := 5) (a := 0) (by decide) (by decide) (by decide) (by decide) (by decide) (by decide) (by decide)
  simpa using this
-- needs 75
end Go.Proofs.YteffemhapnbaeaaGreatDoor
namespace Go.Proofs.YteffemhapnbaeaaGreatDoor
open Go.RowKit Num
set_option maxRecDepth 100000

end Go.Proofs.YteffemhapnbaeaaGreatDoor
