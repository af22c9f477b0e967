/- The law DyadRoots. -/
import Derived.Test.YtlmojkknlkfloaaDoorDyAA
import Derived.Test.YtlmojkknlkfloaaDoorMS
import Derived.Test.YtlmojkknlkfloaaDoorMP
namespace Go.Proofs.YtlmojkknlkfloaaDoor
open Go.RowKit Num
set_option linter.unusedSimpArgs false
set_option linter.unusedVariables false
set_option maxRecDepth 100000

theorem dvs_one {W : World} (p : Bool) (A : Option Addr) (n c : Nat) (xs : List Int) (e : Int) (h : Arr W A n c xs) (t : TypeId) :
    DVs (W.alloc (.cells #[.bool p, .slice A n c, .int .i64 e] t)) W.heap.size [⟨p, A, n, c, xs, e⟩] := by
  have hb := below_alloc (below_self W) (.cells #[.bool p, .slice A n c, .int .i64 e] t)
  have bx := box_new W #[.bool p, .slice A n c, .int .i64 e] t
  refine ⟨bx.lt, fun j hj => ?_, fun j hj => ?_, fun j hj => ?_, fun j hj => ?_⟩
  all_goals
    obtain rfl : j = 0 := by simp at hj; omega
  · exact h.below hb
  all_goals exact bx.cell _
theorem few_one (p : Bool) (A : Option Addr) (n c : Nat) (xs : List Int) (e : Int) (w : World) (h : Arr w A n c xs) :
    Calls Tryd.prog 23 #[.slice (some ⟨w.heap.size, 0, none⟩) 1 1] (w.alloc (.cells #[.bool p, .slice A n c, .int .i64 e] 24)) fun r w' => r = .returned (.bool (fewD ⟨p, A, n, c, xs, e⟩)) ∧ Below w.heap.size w w' := by
  have D := dvs_one p A n c xs e h 24
  refine (few02 _ 1 1 _ rfl _ D.any (by decide)).mono ?_
  rintro r w' ⟨rfl, hb⟩
  exact ⟨by simp, below_on (below_alloc (below_self w) _) hb⟩
end Go.Proofs.YtlmojkknlkfloaaDoor
