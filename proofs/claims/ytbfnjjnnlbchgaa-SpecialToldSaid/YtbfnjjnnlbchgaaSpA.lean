/- special's and the document's small functions on words. -/
import Derived.BigQuiet
import Derived.Test.YtbfnjjnnlbchgaaBtA
namespace Go.Proofs.Ytbfnjjnnlbchgaa
open Go.RowKit Num
set_option linter.unusedSimpArgs false
set_option linter.unusedVariables false
set_option maxRecDepth 100000

def isInf (b : Int) : Bool := decide (kindI b = 3)
def isNot (b : Int) : Bool := decide (kindI b = 4)
def isZero (b : Int) : Bool := decide (kindI b = 0)
def cleanW (b : Int) : Int := if isNot b then 9221120237041090560 else b
theorem kind_range (b : Int) : 0 ≤ kindI b ∧ kindI b ≤ 4 := by unfold kindI; repeat' split <;> omega
theorem sinf (b : Int) (w : World) (h0 : 0 ≤ b) (h1 : b < 18446744073709551616) : Calls Try.prog 28 #[.int .u64 b] w fun r w' => r = .returned (.bool (isInf b)) ∧ w = w' := by
  have K := bkind b w h0 h1
  unfold isInf
  generalize kindI b = k at *
  have K := Lib.hid K
  go_enter Try.func28, Try.ntmps28
  go_wp2_with fail
  refine K.out.mono ?_; rintro r w' ⟨rfl, rfl⟩
  go_wp2_with fail
  go_ret
  exact ⟨by first | rfl | simp [Int.beq_eq_decide] | (refine ret_bool ?_; by_cases h : k = 3 <;> simp [h]), rfl⟩
theorem snone (b : Int) (w : World) (h0 : 0 ≤ b) (h1 : b < 18446744073709551616) : Calls Try.prog 11 #[.int .u64 b] w fun r w' => r = .returned (.bool (isNot b)) ∧ w = w' := by
  have K := bkind b w h0 h1
  unfold isNot
  generalize kindI b = k at *
  have K := Lib.hid K
  go_enter Try.func11, Try.ntmps11
  go_wp2_with fail
  refine K.out.mono ?_; rintro r w' ⟨rfl, rfl⟩
  go_wp2_with fail
  go_ret
  exact ⟨by first | rfl | (refine ret_bool ?_; by_cases h : k = 4 <;> simp [h]), rfl⟩
theorem szero (b : Int) (w : World) (h0 : 0 ≤ b) (h1 : b < 18446744073709551616) : Calls Try.prog 29 #[.int .u64 b] w fun r w' => r = .returned (.bool (isZero b)) ∧ w = w' := by
  have K := bkind b w h0 h1
  unfold isZero
  generalize kindI b = k at *
  have K := Lib.hid K
  go_enter Try.func29, Try.ntmps29
  go_wp2_with fail
  refine K.out.mono ?_; rintro r w' ⟨rfl, rfl⟩
  go_wp2_with fail
  go_ret
  exact ⟨by first | rfl | (refine ret_bool ?_; by_cases h : k = 0 <;> simp [h]), rfl⟩
theorem sclean (b : Int) (w : World) (h0 : 0 ≤ b) (h1 : b < 18446744073709551616) : Calls Try.prog 25 #[.int .u64 b] w fun r w' => r = .returned (.int .u64 (cleanW b)) ∧ w = w' := by
  have K := snone b w h0 h1
  unfold cleanW
  generalize isNot b = k at *
  have K := Lib.hid K
  cases k
  all_goals
    go_enter Try.func25, Try.ntmps25
    go_wp2_with fail
    refine K.out.mono ?_; rintro r w' ⟨rfl, rfl⟩
    go_wp2_with fail
    go_ret
    exact ⟨rfl, rfl⟩
theorem tinf (b : Int) (w : World) (h0 : 0 ≤ b) (h1 : b < 18446744073709551616) : Calls Try.prog 15 #[.int .u64 b] w fun r w' => r = .returned (.bool (isInf b)) ∧ w = w' := by
  have K := rkind b w h0 h1
  unfold isInf
  generalize kindI b = k at *
  have K := Lib.hid K
  go_enter Try.func15, Try.ntmps15
  go_wp2_with fail
  refine K.out.mono ?_; rintro r w' ⟨rfl, rfl⟩
  go_wp2_with fail
  go_ret
  exact ⟨by first | rfl | (refine ret_bool ?_; by_cases h : k = 3 <;> simp [h]), rfl⟩
theorem tnot (b : Int) (w : World) (h0 : 0 ≤ b) (h1 : b < 18446744073709551616) : Calls Try.prog 16 #[.int .u64 b] w fun r w' => r = .returned (.bool (isNot b)) ∧ w = w' := by
  have K := rkind b w h0 h1
  unfold isNot
  generalize kindI b = k at *
  have K := Lib.hid K
  go_enter Try.func16, Try.ntmps16
  go_wp2_with fail
  refine K.out.mono ?_; rintro r w' ⟨rfl, rfl⟩
  go_wp2_with fail
  go_ret
  exact ⟨by first | rfl | (refine ret_bool ?_; by_cases h : k = 4 <;> simp [h]), rfl⟩
theorem tzero (b : Int) (w : World) (h0 : 0 ≤ b) (h1 : b < 18446744073709551616) : Calls Try.prog 22 #[.int .u64 b] w fun r w' => r = .returned (.bool (isZero b)) ∧ w = w' := by
  have K := rkind b w h0 h1
  unfold isZero
  generalize kindI b = k at *
  have K := Lib.hid K
  go_enter Try.func22, Try.ntmps22
  go_wp2_with fail
  refine K.out.mono ?_; rintro r w' ⟨rfl, rfl⟩
  go_wp2_with fail
  go_ret
  exact ⟨by first | rfl | (refine ret_bool ?_; by_cases h : k = 0 <;> simp [h]), rfl⟩
theorem tzero11 (b : Int) (w : World) (h0 : 0 ≤ b) (h1 : b < 18446744073709551616) : Calls Try.prog 32 #[.int .u64 b] w fun r w' => r = .returned (.bool (isZero b)) ∧ w = w' := by
  have K := rkind b w h0 h1
  unfold isZero
  generalize kindI b = k at *
  have K := Lib.hid K
  go_enter Try.func32, Try.ntmps32
  go_wp2_with fail
  refine K.out.mono ?_; rintro r w' ⟨rfl, rfl⟩
  go_wp2_with fail
  go_ret
  exact ⟨by first | rfl | (refine ret_bool ?_; by_cases h : k = 0 <;> simp [h]), rfl⟩
theorem tclean (b : Int) (w : World) (h0 : 0 ≤ b) (h1 : b < 18446744073709551616) : Calls Try.prog 19 #[.int .u64 b] w fun r w' => r = .returned (.int .u64 (cleanW b)) ∧ w = w' := by
  have K := tnot b w h0 h1
  unfold cleanW
  generalize isNot b = k at *
  have K := Lib.hid K
  cases k
  all_goals
    go_enter Try.func19, Try.ntmps19
    go_wp2_with fail
    refine K.out.mono ?_; rintro r w' ⟨rfl, rfl⟩
    go_wp2_with fail
    go_ret
    exact ⟨rfl, rfl⟩
def withW (b : Int) (neg : Bool) : Int := if neg then b + 9223372036854775808 else b
theorem twith (b : Int) (neg : Bool) (w : World) (h0 : 0 ≤ b) (h1 : b < 9223372036854775808) : Calls Try.prog 20 #[.int .u64 b, .bool neg] w fun r w' => r = .returned (.int .u64 (withW b neg)) ∧ w = w' := by
  unfold withW
  cases neg
  all_goals
    go_enter Try.func20, Try.ntmps20
    go_wp2
    go_ret
    exact ⟨rfl, rfl⟩
def isOne (b : Int) : Bool := decide (b % 9223372036854775808 = 4607182418800017408)
theorem tone (b : Int) (w : World) (h0 : 0 ≤ b) (h1 : b < 18446744073709551616) : Calls Try.prog 33 #[.int .u64 b] w fun r w' => r = .returned (.bool (isOne b)) ∧ w = w' := by
  have t1 : b.tmod 9223372036854775808 = b % 9223372036854775808 := Int.tmod_eq_emod_of_nonneg h0
  unfold isOne
  go_enter Try.func33, Try.ntmps33
  go_wp2
  go_ret
  exact ⟨by first | rfl | (refine ret_bool ?_; by_cases h : b % 9223372036854775808 = 4607182418800017408 <;> simp [h, t1]), rfl⟩
end Go.Proofs.Ytbfnjjnnlbchgaa
