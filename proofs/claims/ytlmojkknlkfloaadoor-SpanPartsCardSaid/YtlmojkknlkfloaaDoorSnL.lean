/- The laws' kit: fit and works. -/
import Derived.BigQuiet
import Derived.Test.YtlmojkknlkfloaaDoorSnK
namespace Go.Proofs.YtlmojkknlkfloaaDoor
open Go.RowKit Num
set_option linter.unusedSimpArgs false
set_option linter.unusedVariables false
set_option maxRecDepth 100000

theorem Wk.drew {w : World} {g : Nat} {P : Int} {bad : Bool} {t : TypeId} (h : Wk w g P bad t) : Wk w.drew g P bad t := ⟨h.heap⟩
theorem kitfit (P : Int) (bad : Bool) (w : World) : Calls Tryd.prog 32 #[.agg #[.int .i64 P, .bool bad]] w fun r w' => r = .returned (.bool (decide (P ≤ 500) || decide (8192 < P))) ∧ Below w.heap.size w w' := by
  have b0 : Below w.heap.size w (w.alloc (.cells #[.int .i64 P, .bool bad] 52)) := below_alloc (below_self w) _
  have k0 := (box_new w #[.int .i64 P, .bool bad] 52).cell 0
  generalize h1 : decide (P ≤ 500) = z1
  generalize h2 : decide (8192 < P) = z2
  have h3 : decide (P > 8192) = z2 := h2
  cases z1
  all_goals
    go_enter Tryd.func32, Tryd.ntmps32
    go_wp2_with fail
    go_ret
    exact ⟨rfl, b0⟩
theorem kitworks (P : Int) (bad : Bool) (w : World) : Calls Tryd.prog 33 #[.agg #[.int .i64 P, .bool bad]] w fun r w' => ∃ g k, r = .returned (.tuple #[.pointer (some ⟨g, 0, none⟩), .pointer (some ⟨k, 0, none⟩)]) ∧ Wk w' g P bad 64 ∧ Wk w' k P bad 65 ∧ g ≠ k ∧ w.heap.size ≤ g ∧ w.heap.size ≤ k ∧ Below w.heap.size w w' := by
  have b0 : Below w.heap.size w (w.alloc (.cells #[.int .i64 P, .bool bad] 52)) := below_alloc (below_self w) _
  have bx := box_new w #[.int .i64 P, .bool bad] 52
  have KX := fun o => (bx.later (below_alloc (below_self _) o)).cell 0
  have KY := fun o => (bx.later (below_alloc (below_self _) o)).cell 1
  have k0 := bx.cell 0
  have k1 := bx.cell 1
  have s1 : (w.alloc (.cells #[.int .i64 P, .bool bad] 52)).heap.size = w.heap.size + 1 := by simp
  have A1 : Wk (((w.alloc (.cells #[.int .i64 P, .bool bad] 52)).alloc (.cells #[.int .i64 P, .bool bad] 64)).alloc (.cells #[.int .i64 P, .bool bad] 65)) (w.heap.size + 1) P bad 64 := by
    have h := (box_new (w.alloc (.cells #[.int .i64 P, .bool bad] 52)) #[.int .i64 P, .bool bad] 64).later (below_alloc (below_self _) (.cells #[.int .i64 P, .bool bad] 65))
    rw [s1] at h; exact h
  have A2 : Wk (((w.alloc (.cells #[.int .i64 P, .bool bad] 52)).alloc (.cells #[.int .i64 P, .bool bad] 64)).alloc (.cells #[.int .i64 P, .bool bad] 65)) (w.heap.size + 1 + 1) P bad 65 := by
    have h := box_new ((w.alloc (.cells #[.int .i64 P, .bool bad] 52)).alloc (.cells #[.int .i64 P, .bool bad] 64)) #[.int .i64 P, .bool bad] 65
    rw [show ((w.alloc (.cells #[.int .i64 P, .bool bad] 52)).alloc (.cells #[.int .i64 P, .bool bad] 64)).heap.size = w.heap.size + 1 + 1 by simp] at h; exact h
  have B1 : Wk (((w.alloc (.cells #[.int .i64 P, .bool bad] 52)).alloc (.cells #[.int .i64 P, .bool bad] 65)).alloc (.cells #[.int .i64 P, .bool bad] 64)) (w.heap.size + 1) P bad 65 := by
    have h := (box_new (w.alloc (.cells #[.int .i64 P, .bool bad] 52)) #[.int .i64 P, .bool bad] 65).later (below_alloc (below_self _) (.cells #[.int .i64 P, .bool bad] 64))
    rw [s1] at h; exact h
  have B2 : Wk (((w.alloc (.cells #[.int .i64 P, .bool bad] 52)).alloc (.cells #[.int .i64 P, .bool bad] 65)).alloc (.cells #[.int .i64 P, .bool bad] 64)) (w.heap.size + 1 + 1) P bad 64 := by
    have h := box_new ((w.alloc (.cells #[.int .i64 P, .bool bad] 52)).alloc (.cells #[.int .i64 P, .bool bad] 65)) #[.int .i64 P, .bool bad] 64
    rw [show ((w.alloc (.cells #[.int .i64 P, .bool bad] 52)).alloc (.cells #[.int .i64 P, .bool bad] 65)).heap.size = w.heap.size + 1 + 1 by simp] at h; exact h
  clear s1
  go_enter Tryd.func33, Tryd.ntmps33
  go_wp2_with fail
  go_region
  all_goals
    go_wp2_with fail
    go_ret2
    refine ⟨_, _, rfl, ?_, ?_, by omega, by omega, by omega, ?_⟩
    all_goals first | exact A1.drew | exact A2.drew | exact B1.drew | exact B2.drew | exact (by repeat (first | with_reducible assumption | with_reducible exact below_self _ | with_reducible refine below_drewN ?_ _ | with_reducible apply Below.drew | with_reducible refine below_alloc ?_ _))
end Go.Proofs.YtlmojkknlkfloaaDoor
