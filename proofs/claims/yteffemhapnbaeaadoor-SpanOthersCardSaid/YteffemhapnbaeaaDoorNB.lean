/- dyad.Root, the document's Root. -/
import Derived.Laws.BitsLemmas
import Derived.Test.YteffemhapnbaeaaDoorMS
import Derived.Test.YteffemhapnbaeaaDoorMJ
import Derived.Test.YteffemhapnbaeaaDoorMP
import Derived.Test.YteffemhapnbaeaaDoorME
import Derived.Test.YteffemhapnbaeaaDoorMH
namespace Go.Proofs.YteffemhapnbaeaaDoor
open Go.RowKit Num
set_option linter.unusedSimpArgs false
set_option linter.unusedVariables false
set_option maxRecDepth 100000

theorem i64_and1 (n : Int) : bits .and .i64 n 1 = n % 2 := by
  have h1 : (BitVec.ofInt 64 1).toNat = 2 ^ 1 - 1 := by decide
  have key : (BitVec.ofInt 64 n &&& BitVec.ofInt 64 1).toNat = (n % ((2 ^ 64 : Nat) : Int)).toNat % 2 ^ 1 := by
    rw [BitVec.toNat_and, BitVec.toNat_ofInt, h1, Nat.and_two_pow_sub_one_eq_mod]
  show IntKind.i64.wrap ((BitVec.ofInt 64 n &&& BitVec.ofInt 64 1).toNat : Nat) = n % 2
  rw [key, IntKind.wrap_i64]
  omega
theorem rootD_none {p : Bool} {xs : List Int} {e P : Int} {up : Bool} (h : (plainB p xs e && rightB P && !p) = false) : rootD p xs e P up = none := by
  unfold rootD; rw [h]; rfl
end Go.Proofs.YteffemhapnbaeaaDoor
/- The law DyadRoots. -/
namespace Go.Proofs.YteffemhapnbaeaaDoor
open Go.RowKit Num
set_option linter.unusedSimpArgs false
set_option linter.unusedVariables false
set_option maxRecDepth 100000

theorem dvs_one {W : World} (p : Bool) (A : Option Addr) (n c : Nat) (xs : List Int) (e : Int) (h : Arr W A n c xs) (t : TypeId) :
    DVs (W.alloc (.cells #[.bool p, .slice A n c, .int .i64 e] t)) W.heap.size [⟨p, A, n, c, xs, e⟩] := by
  have hb := below_alloc (below_self W) (.cells #[.bool p, .slice A n c, .int .i64 e] t)
  have bx := box_new W #[.bool p, .slice A n c, .int .i64 e] t
  refine ⟨bx.lt, fun j hj => ?_, fun j hj => ?_, fun j hj => ?_, fun j hj => ?_⟩
  all_goals
    obtain rfl : j = 0 := by simp at hj; omega
  · exact h.below hb
  all_goals exact bx.cell _
theorem few_one (p : Bool) (A : Option Addr) (n c : Nat) (xs : List Int) (e : Int) (w : World) (h : Arr w A n c xs) :
    Calls Tryd.prog 25 #[.slice (some ⟨w.heap.size, 0, none⟩) 1 1] (w.alloc (.cells #[.bool p, .slice A n c, .int .i64 e] 26)) fun r w' => r = .returned (.bool (fewD ⟨p, A, n, c, xs, e⟩)) ∧ Below w.heap.size w w' := by
  have D := dvs_one p A n c xs e h 26
  refine (few02 _ 1 1 _ rfl _ D.any (by decide)).mono ?_
  rintro r w' ⟨rfl, hb⟩
  exact ⟨by simp, below_on (below_alloc (below_self w) _) hb⟩
end Go.Proofs.YteffemhapnbaeaaDoor
/- dyad.Mul, the document's Mul. -/
namespace Go.Proofs.YteffemhapnbaeaaDoor
open Go.RowKit Num
set_option linter.unusedSimpArgs false
set_option linter.unusedVariables false
set_option maxRecDepth 100000

theorem mul_lt_pow {a b : Int} {m n : Nat} (h1 : a < B ^ m) (h2 : b < B ^ n) (ha : 0 ≤ a) (hb : 0 ≤ b) : a * b < B ^ (m + n) := by
  rw [Int.pow_add]
  have h3 : a * b ≤ a * B ^ n := Int.mul_le_mul_of_nonneg_left (Int.le_of_lt h2) ha
  have h4 : a * B ^ n < B ^ m * B ^ n := Int.mul_lt_mul_of_pos_right h1 (B_pow_pos n)
  omega
end Go.Proofs.YteffemhapnbaeaaDoor
