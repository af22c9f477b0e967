/- The law DyadEnclose. -/
import Derived.Test.YtlmojkknlkfloaaDoorDyAJ
import Derived.Test.YtlmojkknlkfloaaDoorDyAK
import Derived.Test.YtlmojkknlkfloaaDoorDyAL
namespace Go.Proofs.YtlmojkknlkfloaaDoor
open Go.RowKit Num

theorem dyadEnclose (p q : Bool) (A A' : Option Addr) (n c n' c' : Nat) (xs ys : List Int) (e f P : Int) (w : World) (h : Arr w A n c xs) (h' : Arr w A' n' c' ys) (hT : Tz w) :
    Calls Tryd.prog 7 #[.agg #[.bool p, .slice A n c, .int .i64 e], .agg #[.bool q, .slice A' n' c', .int .i64 f], .int .i64 P] w fun r w' => r = .returned (.bool true) ∧ Below w.heap.size w w' := by
  rcases Nat.eq_zero_or_pos n' with hz | hz
  · exact dyadEnclose_DyAJ p q A A' n c n' c' xs ys e f P w h h' hT (Lib.hid hz)
  · cases hq : q
    · exact dyadEnclose_DyAK p false A A' n c n' c' xs ys e f P w h h' hT hz (Lib.hid rfl)
    · exact dyadEnclose_DyAL p true A A' n c n' c' xs ys e f P w h h' hT hz (Lib.hid rfl)
end Go.Proofs.YtlmojkknlkfloaaDoor
