/- The laws SpecialOne, SpecialPairs; what all three stand on. -/
import Derived.Test.YtbfnjjnnlbchgaaSpG
import Derived.ChangeKeysEq
namespace Go.Proofs.Ytbfnjjnnlbchgaa
open Go.RowKit Num
set_option linter.unusedSimpArgs false
set_option linter.unusedVariables false
set_option maxRecDepth 100000

theorem eq_duo (a b c d : Int) (w : World) : (Op.equalIn 10000 26 (.agg #[.int .u64 a, .int .u64 b]) (.agg #[.int .u64 c, .int .u64 d])).run Try.prog w = .ok (a == c && b == d) w := by
  have hp : (Try.prog).plainKey 22 = true := by kernel_rfl
  have hc : (Try.prog).cellsOf 22 = 1 := by kernel_rfl
  obtain ⟨i, hi⟩ : ∃ i, (Try.prog).info? 22 = some i := Option.isSome_iff_exists.1 (by kernel_rfl)
  rw [run_equalIn_array w 9999 (n := 2) (e := 22) #[.int .u64 a, .int .u64 b] #[.int .u64 c, .int .u64 d] Try.underlying26 hi, hc]
  have p0 : ∀ x y : Int, (part 22 #[.int .u64 x, .int .u64 y] (0 * 1)).run Try.prog w = .ok (.int .u64 x) w := fun x y => run_part_plain w hp rfl
  have p1 : ∀ x y : Int, (part 22 #[.int .u64 x, .int .u64 y] (1 * 1)).run Try.prog w = .ok (.int .u64 y) w := fun x y => run_part_plain w hp rfl
  have q : ∀ x y : Int, (Op.equalIn 9999 22 (.int .u64 x) (.int .u64 y)).run Try.prog w = .ok (x == y) w := fun x y => run_equalIn_int w 9998 22 .u64 .u64 x y Try.underlying22
  rw [show List.range 2 = [0, 1] from rfl]
  simp only [Op.eqItems, Sem.run_bind, p0, p1, q, Result.andThen_ok]
  cases hac : a == c
  · simp only [Bool.not_false, if_true, Sem.run_pure, Bool.false_and]
  · simp only [Bool.not_true, Bool.false_eq_true, if_false, Sem.run_bind, p0, p1, q, Result.andThen_ok, Bool.true_and]
    cases hbd : b == d
    · simp only [Bool.not_false, if_true, Sem.run_pure]
    · simp only [Bool.not_true, Bool.false_eq_true, if_false, Sem.run_pure]
theorem spec_awake : specI 6 9221120237041090560 9218868437227405312 0 0 = (9218868437227405312, 9218868437227405312, 0, true) := by decide
theorem wd_lit {x : Int} (h0 : 0 ≤ x) (h1 : x < 18446744073709551616) : Wd x := ⟨h0, h1⟩
theorem awake13 (w : World) : Calls Try.prog 6 #[] w fun r w' => r = .returned (.bool true) ∧ Below w.heap.size w w' := by
  have S := spspecial 6 9221120237041090560 9218868437227405312 0 0 w ⟨by decide, by decide⟩ ⟨by decide, by decide⟩ ⟨by decide, by decide⟩ ⟨by decide, by decide⟩
  unfold RetT at S
  rw [spec_awake] at S
  have S := Lib.hid S
  go_enter Try.func6, Try.ntmps6
  go_wp2_with fail
  refine S.out.mono ?_; rintro r w1 ⟨rfl, hb1⟩
  have hb2 := below_alloc hb1 (.cells #[.int .u64 9218868437227405312, .int .u64 9218868437227405312] 26)
  go_wp2_with fail
  rw [eq_duo]
  simp only [Result.andThen_ok, Oper.upon_value, BEq.rfl, Bool.and_self]
  go_wp2_with fail
  go_ret
  exact ⟨rfl, hb2⟩
end Go.Proofs.Ytbfnjjnnlbchgaa
