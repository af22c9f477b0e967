/- Layer 2's laws: the same twice. -/
import Derived.Test.YtbfnjjnnlbchgaaDoorDyB
import Derived.Test.YtbfnjjnnlbchgaaDoorBtB
import Derived.Test.YtbfnjjnnlbchgaaDoorBtN
namespace Go.Proofs.YtbfnjjnnlbchgaaDoor
open Go.RowKit Num
set_option maxRecDepth 100000

theorem dboth (p : Bool) (A A' : Option Addr) (n c n' c' : Nat) (xs : List Int) (e : Int) (ok : Bool) (w : World) (h : Arr w A n c xs) (h' : Arr w A' n' c' xs) :
    Calls Tryd.prog 34 #[.agg #[.bool p, .slice A n c, .int .i64 e], .bool ok, .agg #[.bool p, .slice A' n' c', .int .i64 e], .bool ok] w fun r w' => r = .returned (.bool true) ∧ Below w.heap.size w w' := by
  have b1 : Below w.heap.size w ((w.alloc (.cells #[.bool p, .slice A n c, .int .i64 e] 24)).alloc (.cells #[.bool p, .slice A' n' c', .int .i64 e] 24)) := below_alloc (below_alloc (below_self w) _) _
  have S := same02 p p A A' n c n' c' xs xs e e _ (h.below b1) (h'.below b1)
  rw [sameB_self] at S
  have S := Lib.hid S
  have x1 := (box_new w #[.bool p, .slice A n c, .int .i64 e] 24).later (below_alloc (below_self _) (.cells #[.bool p, .slice A' n' c', .int .i64 e] 24))
  have x2 := box_new (w.alloc (.cells #[.bool p, .slice A n c, .int .i64 e] 24)) #[.bool p, .slice A' n' c', .int .i64 e] 24
  rw [show (w.alloc (.cells #[.bool p, .slice A n c, .int .i64 e] 24)).heap.size = w.heap.size + 1 by simp] at x2
  obtain ⟨k0, k1, k2, f0, f1, f2⟩ := x1.cell3
  obtain ⟨j0, j1, j2, g0, g1, g2⟩ := x2.cell3
  cases ok
  all_goals
    go_enter Tryd.func34, Tryd.ntmps34
    go_wp2_with fail
    refine S.out.mono ?_; rintro r w3 ⟨rfl, hb3⟩
    go_wp2_with fail
    go_ret
    exact ⟨rfl, below_on b1 hb3⟩
end Go.Proofs.YtbfnjjnnlbchgaaDoor
