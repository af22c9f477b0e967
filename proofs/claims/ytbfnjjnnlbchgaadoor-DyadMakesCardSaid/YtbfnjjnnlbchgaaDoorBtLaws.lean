/- What the laws of words want: the plain part, and the walks of the laws. -/
import Derived.Test.YtbfnjjnnlbchgaaDoorBtB
namespace Go.Proofs.YtbfnjjnnlbchgaaDoor
open Go.RowKit Num
set_option maxRecDepth 100000

/-- A word without its sign. -/
def size63 (b : Int) : Int := b % 9223372036854775808
theorem kind_size (b : Int) (_h0 : 0 ≤ b) (_h1 : b < 18446744073709551616) :
    (kindI b = 0 ↔ size63 b = 0) ∧ (kindI b = 3 ↔ size63 b = 9218868437227405312) ∧ (kindI b = 4 ↔ 9218868437227405312 < size63 b) ∧ (kindI b = 1 ↔ 0 < size63 b ∧ size63 b < 4503599627370496) := by
  unfold kindI expo frac size63
  refine ⟨?_, ?_, ?_, ?_⟩ <;> (repeat' split) <;> omega
theorem next_back {b n : Int} {up : Bool} (h0 : 0 ≤ b) (h1 : b < 18446744073709551616) (h : nextW b up = some n) :
    (0 ≤ n ∧ n < 18446744073709551616) ∧ ∃ k, nextW n (!up) = some k ∧ (k = b ∨ kindI b = 0 ∧ kindI k = 0) := by
  obtain ⟨a1, a2, a3, _⟩ := kind_size b h0 h1
  have hn : 0 ≤ n ∧ n < 18446744073709551616 := by
    unfold nextW negB size63 at *
    cases up <;> simp only [decide_eq_true_eq, ne_eq, decide_eq_false_iff_not] at h <;> (repeat' split at h) <;> simp at h <;> omega
  refine ⟨hn, ?_⟩
  obtain ⟨b1, b2, b3, _⟩ := kind_size n hn.1 hn.2
  have z1 : kindI 0 = 0 := by decide
  have z2 : kindI 9223372036854775808 = 0 := by decide
  by_cases hk : kindI b = 0
  · have e : n = if up then 1 else 9223372036854775809 := by
      unfold nextW at h
      rw [if_neg (by omega), if_pos hk] at h
      exact (Option.some.inj h).symm
    have hs := a1.1 hk
    cases up
    · subst e
      refine ⟨9223372036854775808, by decide, .inr ⟨hk, z2⟩⟩
    · subst e
      refine ⟨0, by decide, .inr ⟨hk, z1⟩⟩
  · have h4 : ¬ (kindI b = 4 ∨ (kindI b = 3 ∧ negB b ≠ up)) := by
      intro hh; unfold nextW at h; rw [if_pos hh] at h; cases h
    unfold nextW at h
    rw [if_neg h4, if_neg hk] at h
    unfold nextW
    unfold negB size63 at *
    refine ⟨b, ?_, .inl rfl⟩
    cases up <;> simp only [Bool.not_true, Bool.not_false, decide_eq_true_eq, ne_eq, decide_eq_false_iff_not] at * <;> (repeat' split at h) <;> simp at h <;> (repeat' split) <;> first | omega | (exfalso; omega) | (simp only [Option.some.injEq]; omega) | contradiction | exact absurd trivial (by assumption)
theorem mkD_split (neg : Bool) {v e u : Int} {a : Nat} (h : v = pw a * u) (hu : u % 2 = 1) (h0 : 0 < u) (h1 : u < 18446744073709551616) (e0 : e ≤ 262144) (e1 : -262144 ≤ e + a) (e2 : e + a ≤ 262144) : mkD neg v e = some ⟨neg, u, e + a⟩ := by
  obtain ⟨t1, t2⟩ := odd_of_split h hu (by omega)
  have hp := pw_pos a
  have hv : v ≠ 0 := by
    have := Int.mul_pos hp h0
    omega
  unfold mkD
  rw [if_neg hv, t1, t2, if_neg (by omega), wd_small h0 h1, if_pos ⟨by simp, e2⟩]
theorem num_half : numD 4609434218613702656 = some ⟨false, 3, -1⟩ := by
  have e : numD 4609434218613702656 = mkD false 6755399441055744 (-52) := by
    unfold numD
    rw [if_neg (by decide), if_neg (by decide)]
    rfl
  rw [e]
  exact mkD_split false (a := 51) (u := 3) (by decide) (by decide) (by decide) (by decide) (by decide) (by decide) (by decide)
end Go.Proofs.YtbfnjjnnlbchgaaDoor
