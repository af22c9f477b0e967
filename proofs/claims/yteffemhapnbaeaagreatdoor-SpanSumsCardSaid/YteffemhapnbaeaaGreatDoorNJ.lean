/- A text of ours, with only what the claim's row needs (wip/tools/shake.py). -/
import Derived.Test.YteffemhapnbaeaaGreatDoorNI
import Derived.Deep.RegionHeld3
namespace Go.Proofs.YteffemhapnbaeaaGreatDoor
open Go.RowKit Num
variable {tw : TypeId}
set_option linter.unusedSimpArgs false
set_option linter.unusedVariables false
set_option maxRecDepth 100000

theorem take_plain {bad : Bool} {P : Int} {p q s t : Bool} {A A' B B' : Option Addr} {n c n' c' m k m' k' : Nat} {xs ys us vs : List Int} {e f i j : Int} (h : takeB bad P [(⟨p, A, n, c, xs, e, q, A', n', c', ys, f⟩ : SVal), (⟨s, B, m, k, us, i, t, B', m', k', vs, j⟩ : SVal)] = false) :
    plainB p xs e = true ∧ plainB q ys f = true ∧ plainB s us i = true ∧ plainB t vs j = true := by
  unfold takeB at h
  simp only [List.all_cons, List.all_nil, Bool.and_true, SVal.right, Bool.or_eq_false_iff, decide_eq_false_iff_not, Bool.not_eq_false', Bool.and_eq_true] at h
  obtain ⟨-, ra, rb⟩ := h
  unfold rightS bothB at ra rb
  simp only [Bool.and_eq_true] at ra rb
  exact ⟨ra.1.1, ra.1.2, rb.1.1, rb.1.2⟩
end Go.Proofs.YteffemhapnbaeaaGreatDoor
namespace Go.Proofs.YteffemhapnbaeaaGreatDoor
open Go.RowKit Num
set_option linter.unusedSimpArgs false
set_option linter.unusedVariables false
set_option maxRecDepth 100000

end Go.Proofs.YteffemhapnbaeaaGreatDoor
