/- The document's angle; what is told, in the words' kinds. -/
import Derived.Test.YtbfnjjnnlbchgaaSpG
namespace Go.Proofs.Ytbfnjjnnlbchgaa
open Go.RowKit Num
set_option linter.unusedSimpArgs false
set_option linter.unusedVariables false
set_option maxRecDepth 100000

theorem with_sgn (c b : Int) : withW c (negB b) = c + sgnw b := by
  unfold withW sgnw; cases negB b <;> simp
theorem sgnw_ne (x : Int) : (sgnw x ≠ 0) ↔ negB x = true := by
  unfold sgnw; cases negB x <;> simp
theorem kind3 (x : Int) : decide (3 ≤ kindI x) = (isInf x || isNot x) := by
  have := kind_range x
  unfold isInf isNot
  by_cases h3 : kindI x = 3
  · rw [h3]; rfl
  · by_cases h4 : kindI x = 4
    · rw [h4]; rfl
    · rw [decide_eq_false h3, decide_eq_false h4, decide_eq_false (by omega)]; rfl
theorem any2 (x y u v : Int) : anyK x y u v 2 = ((isInf x || isNot x) || (isInf y || isNot y)) := by
  have h : anyK x y u v 2 = ((anyK x y u v 0 || decide (3 ≤ kindI x)) || decide (3 ≤ kindI y)) := by rw [anyK_succ, anyK_succ]; rfl
  rw [h, kind3, kind3]; rfl
theorem all2 (x y u v : Int) : allN x y u v 2 = (!isNot x && !isNot y) := by
  have h : allN x y u v 2 = ((allN x y u v 0 && !isNot x) && !isNot y) := by rw [allN_succ, allN_succ]; rfl
  rw [h]; rfl
theorem any4 (x y u v : Int) : anyK x y u v 4 = ((((isInf x || isNot x) || (isInf y || isNot y)) || (isInf u || isNot u)) || (isInf v || isNot v)) := by
  have h : anyK x y u v 4 = ((anyK x y u v 2 || decide (3 ≤ kindI u)) || decide (3 ≤ kindI v)) := by rw [anyK_succ, anyK_succ]; rfl
  rw [h, kind3, kind3, any2]
theorem all4 (x y u v : Int) : allN x y u v 4 = (((!isNot x && !isNot y) && !isNot u) && !isNot v) := by
  have h : allN x y u v 4 = ((allN x y u v 2 && !isNot u) && !isNot v) := by rw [allN_succ, allN_succ]; rfl
  rw [h, all2]
/-- What is singular is no infinity, and is a number. -/
theorem sing_any {tag x y u v : Int} (h : singZ tag x y u v = true) : anyK x y u v (many tag) = false := by
  unfold singZ numsI at h
  rw [Bool.and_eq_true, Bool.and_eq_true, List.all_eq_true] at h
  unfold anyK
  rw [List.any_eq_false]
  intro j hj
  have := h.1.1 j hj
  simp only [decide_eq_true_eq] at this ⊢
  omega
theorem inf_not (x : Int) : ¬ (isInf x = true ∧ isNot x = true) := by
  unfold isInf isNot
  simp only [decide_eq_true_eq]
  omega
theorem inf_zero (x : Int) : ¬ (isInf x = true ∧ isZero x = true) ∧ ¬ (isNot x = true ∧ isZero x = true) := by
  unfold isInf isZero isNot
  simp only [decide_eq_true_eq]
  omega
set_option maxHeartbeats 2000000 in
theorem tangle (x y : Int) (w : World) (hx : Wd x) (hy : Wd y) :
    Calls Try.prog 21 #[.int .u64 x, .int .u64 y] w fun r w' => r = .returned (.tuple #[.int .u64 (angI x y (sgnw x) (sgnw y)).1, .int .i64 (angI x y (sgnw x) (sgnw y)).2]) ∧ w = w' := by
  have IX := fun w => tinf x w hx.1 hx.2
  have IY := fun w => tinf y w hy.1 hy.2
  have NX := fun w => rneg x w
  have NY := fun w => rneg y w
  have w1 := fun w => twith 4612488097114038738 (negB y) w (by omega) (by omega)
  have w2 := fun w => twith 4605249457297304856 (negB y) w (by omega) (by omega)
  have w3 := fun w => twith 4609753056924675352 (negB y) w (by omega) (by omega)
  have w4 := fun w => twith 4614256656552045848 (negB y) w (by omega) (by omega)
  have w5 := fun w => twith 0 (negB y) w (by omega) (by omega)
  simp only [with_sgn] at w1 w2 w3 w4 w5
  have hs := sgnw_ne x
  unfold angI
  generalize isInf x = ix at *
  generalize isInf y = iy at *
  generalize sgnw y = sy at *
  generalize sgnw x = sx at *
  generalize negB x = nx at *
  generalize negB y = ny at *
  have IX := Lib.hid IX
  have IY := Lib.hid IY
  have NX := Lib.hid NX
  have NY := Lib.hid NY
  have W1 := Lib.hid w1
  have W2 := Lib.hid w2
  have W3 := Lib.hid w3
  have W4 := Lib.hid w4
  have W5 := Lib.hid w5
  clear w1 w2 w3 w4 w5
  cases ix <;> cases iy <;> cases nx
  all_goals
    simp only [Bool.false_eq_true, iff_false, iff_true, Decidable.not_not, ne_eq] at hs
    simp only [hs, Bool.false_eq_true, if_false, if_true, ne_eq, not_true_eq_false, not_false_eq_true]
    clear hs
    go_enter Try.func21, Try.ntmps21
    go_wp2_with (first
      | (go_at_call_of 15 (Value.int .u64 x); refine (IX.out _).mono ?_; rintro r w' ⟨rfl, rfl⟩)
      | (go_at_call_of 15 (Value.int .u64 y); refine (IY.out _).mono ?_; rintro r w' ⟨rfl, rfl⟩)
      | (go_at_call_of 18 (Value.int .u64 x); refine (NX.out _).mono ?_; rintro r w' ⟨rfl, rfl⟩)
      | (go_at_call_of 18 (Value.int .u64 y); refine (NY.out _).mono ?_; rintro r w' ⟨rfl, rfl⟩)
      | (go_at_call_of 20 (Value.int .u64 4612488097114038738); refine (W1.out _).mono ?_; rintro r w' ⟨rfl, rfl⟩)
      | (go_at_call_of 20 (Value.int .u64 4605249457297304856); refine (W2.out _).mono ?_; rintro r w' ⟨rfl, rfl⟩)
      | (go_at_call_of 20 (Value.int .u64 4609753056924675352); refine (W3.out _).mono ?_; rintro r w' ⟨rfl, rfl⟩)
      | (go_at_call_of 20 (Value.int .u64 4614256656552045848); refine (W4.out _).mono ?_; rintro r w' ⟨rfl, rfl⟩)
      | (go_at_call_of 20 (Value.int .u64 0); refine (W5.out _).mono ?_; rintro r w' ⟨rfl, rfl⟩))
    go_ret2
    exact ⟨by simp, rfl⟩
end Go.Proofs.Ytbfnjjnnlbchgaa
