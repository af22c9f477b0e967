/- The law BitsOrder. -/
import Derived.Test.YtlmojkknlkfloaaDoorMP
import Derived.Test.YtlmojkknlkfloaaDoorMN
namespace Go.Proofs.YtlmojkknlkfloaaDoor
open Go.RowKit Num
set_option maxRecDepth 100000

/-- A word's size in units of 2^-1074; a is the word without its sign. -/
def mag (a : Int) : Int := if a / 4503599627370496 = 0 then a % 4503599627370496 else (a % 4503599627370496 + 4503599627370496) * pw (a / 4503599627370496 - 1).toNat
theorem mag_zero : mag 0 = 0 := rfl
theorem mag_step {x : Int} (h : 0 ≤ x) : mag x < mag (x + 1) := by
  unfold mag
  by_cases hf : x % 4503599627370496 + 1 < 4503599627370496
  · have e1 : (x + 1) / 4503599627370496 = x / 4503599627370496 := by omega
    have e2 : (x + 1) % 4503599627370496 = x % 4503599627370496 + 1 := by omega
    rw [e1, e2]
    by_cases hq : x / 4503599627370496 = 0
    · rw [if_pos hq, if_pos hq]; omega
    · rw [if_neg hq, if_neg hq]
      exact Int.mul_lt_mul_of_pos_right (by omega) (pw_pos _)
  · have e1 : (x + 1) / 4503599627370496 = x / 4503599627370496 + 1 := by omega
    have e2 : (x + 1) % 4503599627370496 = 0 := by omega
    have e3 : x % 4503599627370496 = 4503599627370495 := by omega
    have hq0 : 0 ≤ x / 4503599627370496 := by omega
    rw [e1, e2, e3]
    generalize x / 4503599627370496 = q at *
    rw [if_neg (show ¬ q + 1 = 0 by omega)]
    by_cases hq : q = 0
    · rw [if_pos hq, hq]; decide
    · rw [if_neg hq, show (q + 1 - 1).toNat = (q - 1).toNat + 1 by omega, pw_add]
      have := pw_pos (q - 1).toNat
      have e : pw 1 = 2 := rfl
      rw [e]
      omega
theorem mag_lt {x y : Int} (h : 0 ≤ x) (hxy : x < y) : mag x < mag y := by
  obtain ⟨n, rfl⟩ : ∃ n : Nat, y = x + 1 + n := ⟨(y - x - 1).toNat, by omega⟩
  clear hxy
  induction n with
  | zero => rw [Int.natCast_zero, Int.add_zero]; exact mag_step h
  | succ n ih =>
    have := mag_step (x := x + 1 + n) (by omega)
    have e : x + 1 + ((n + 1 : Nat) : Int) = x + 1 + n + 1 := by omega
    rw [e]; omega
theorem mag_nonneg {x : Int} (h : 0 ≤ x) : 0 ≤ mag x := by
  by_cases h0 : x = 0
  · rw [h0, mag_zero]; omega
  · have := mag_lt (x := 0) (y := x) (by omega) (by omega)
    rw [mag_zero] at this; omega
theorem mag_le {x y : Int} (h : 0 ≤ x) (hxy : x ≤ y) : mag x ≤ mag y := by
  by_cases e : x = y
  · rw [e]; omega
  · have := mag_lt h (show x < y by omega); omega
theorem sgn_le {p q : Bool} {s t : Int} (hs : 0 ≤ s) (ht : 0 ≤ t) (h : sgn p s ≤ sgn q t) : sgn p (mag s) ≤ sgn q (mag t) := by
  have a := mag_nonneg hs
  have b := mag_nonneg ht
  cases p <;> cases q <;> simp only [sgn, Bool.false_eq_true, if_false, if_true] at h ⊢
  · exact mag_le hs h
  · have e1 : s = 0 := by omega
    have e2 : t = 0 := by omega
    rw [e1, e2, mag_zero]; omega
  · omega
  · have := mag_le ht (show t ≤ s by omega); omega
theorem sgn_lt {p q : Bool} {s t : Int} (hs : 0 ≤ s) (ht : 0 ≤ t) (h : sgn p s < sgn q t) : sgn p (mag s) < sgn q (mag t) := by
  have a := mag_nonneg hs
  have b := mag_nonneg ht
  cases p <;> cases q <;> simp only [sgn, Bool.false_eq_true, if_false, if_true] at h ⊢
  · exact mag_lt hs h
  · omega
  · by_cases h0 : s = 0
    · have := mag_lt (x := 0) (y := t) (by omega) (by omega)
      rw [h0]; rw [mag_zero] at *; omega
    · have := mag_lt (x := 0) (y := s) (by omega) (by omega)
      rw [mag_zero] at this; omega
  · have := mag_lt ht (show t < s by omega); omega
/-- Where a word stands among all; what it stands for. -/
def ordW (b : Int) : Int := sgn (negB b) (b % 9223372036854775808)
def numV (b : Int) : Int := sgn (negB b) (mag (b % 9223372036854775808))
theorem num_V {b : Int} {d : Dy} (h : numD b = some d) :
    -1074 ≤ d.e ∧ sgn d.neg (lev d.m d.e (-1074)) = numV b ∧ plainB d.neg (wd d.m) d.e = true ∧ 0 ≤ d.m := by
  unfold numD at h
  have hf := frac_range b
  have hx := expo_range b
  have e1 : b % 9223372036854775808 / 4503599627370496 = expo b := by unfold expo; omega
  have e2 : b % 9223372036854775808 % 4503599627370496 = frac b := by unfold frac; omega
  by_cases c1 : expo b = 2047
  · rw [if_pos c1] at h; cases h
  · rw [if_neg c1] at h
    by_cases c2 : expo b = 0
    · rw [if_pos c2] at h
      have em : mag (b % 9223372036854775808) = frac b := by unfold mag; rw [e1, if_pos c2, e2]
      by_cases c3 : frac b = 0
      · rw [c3] at h
        unfold mkD at h
        rw [if_pos rfl] at h
        obtain rfl := Option.some.inj h
        refine ⟨by decide, ?_, ?_, by decide⟩
        · unfold numV
          rw [em, c3]
          show sgn false (0 * _) = sgn (negB b) 0
          rw [Int.zero_mul]
          cases negB b <;> rfl
        · have : wd Dy.zero.m = [] := wd_zero (Int.le_refl _)
          rw [this]; decide
      · obtain ⟨a, u, hs, hu, hp, hlt, -, ha, -, -⟩ := odd_53 (v := frac b) (by omega) (by omega)
        rw [mkD_odd _ hs hu hp (by omega) (by omega) (by omega) ha] at h
        obtain rfl := Option.some.inj h
        refine ⟨by simp only; omega, ?_, ?_, by simp only; omega⟩
        · unfold numV lev
          rw [em]
          simp only
          rw [show (-1074 + (a : Int) - -1074).toNat = a by omega, hs, Int.mul_comm]
        · simp only
          rw [plainB_words hp, wd_small hp (by omega)]
          simp [hu]; omega
    · rw [if_neg c2] at h
      have em : mag (b % 9223372036854775808) = (frac b + 4503599627370496) * pw (expo b - 1).toNat := by unfold mag; rw [e1, if_neg c2, e2]
      obtain ⟨a, u, hs, hu, hp, hlt, -, ha, -, -⟩ := odd_53 (v := frac b + 4503599627370496) (by omega) (by omega)
      rw [mkD_odd _ hs hu hp (by omega) (by omega) (by omega) ha] at h
      obtain rfl := Option.some.inj h
      refine ⟨by simp only; omega, ?_, ?_, by simp only; omega⟩
      · unfold numV lev
        rw [em, hs]
        simp only
        rw [show (expo b - 1075 + (a : Int) - -1074).toNat = a + (expo b - 1).toNat by omega, pw_add, ← Int.mul_assoc, Int.mul_comm u]
      · simp only
        rw [plainB_words hp, wd_small hp (by omega)]
        simp [hu]; omega
theorem cmp_V {b c : Int} {d f : Dy} (h : numD b = some d) (k : numD c = some f) :
    cmpR d.neg f.neg (wd d.m) (wd f.m) d.e f.e = .tuple #[.int .i64 (cmpI (numV b) (numV c)), .bool true] := by
  obtain ⟨a1, a2, a3, a4⟩ := num_V h
  obtain ⟨b1, b2, b3, b4⟩ := num_V k
  unfold cmpR
  rw [a3, b3, val_wd _ a4, val_wd _ b4]
  have := cmpD_at (a := d) (b := f) (L := -1074) a1 b1
  rw [a2, b2] at this
  rw [← this]
  rfl
theorem next_ord {b n : Int} (h0 : 0 ≤ b) (h1 : b < 18446744073709551616) (hx : expo b ≠ 2047) (h : nextW b true = some n) : ordW n = ordW b + 1 ∧ 0 ≤ n ∧ n < 18446744073709551616 := by
  have hk : kindI b = 0 ∧ b % 9223372036854775808 = 0 ∨ kindI b ≠ 0 ∧ kindI b ≠ 3 ∧ kindI b ≠ 4 ∧ b % 9223372036854775808 ≠ 0 := by
    unfold kindI
    rw [if_neg hx]
    by_cases c2 : expo b = 0
    · rw [if_pos c2]
      by_cases c3 : frac b = 0
      · rw [if_pos c3]; left
        unfold expo at c2; unfold frac at c3
        omega
      · rw [if_neg c3]; right
        unfold frac at c3
        refine ⟨by omega, by omega, by omega, by omega⟩
    · rw [if_neg c2]; right
      unfold expo at c2
      refine ⟨by omega, by omega, by omega, by omega⟩
  unfold nextW at h
  have hx2 : b % 9223372036854775808 < 9218868437227405312 := by
    unfold expo at hx; omega
  rcases hk with ⟨k0, ks⟩ | ⟨k0, k3, k4, ks⟩
  · rw [if_neg (by omega), if_pos k0] at h
    obtain rfl : 1 = n := by simpa using h
    refine ⟨?_, by omega, by omega⟩
    unfold ordW
    rw [ks]
    have e : negB 1 = false := by decide
    rw [e]
    cases negB b <;> simp [sgn]
  · rw [if_neg (by omega), if_neg k0] at h
    by_cases hn : 9223372036854775808 ≤ b
    · have e : negB b = true := by unfold negB; exact decide_eq_true hn
      rw [e, if_pos rfl] at h
      obtain rfl : b - 1 = n := by simpa using h
      have e2 : negB (b - 1) = true := by unfold negB; exact decide_eq_true (by omega)
      refine ⟨?_, by omega, by omega⟩
      unfold ordW
      rw [e, e2]
      simp only [sgn, if_true]
      omega
    · have e : negB b = false := by unfold negB; exact decide_eq_false hn
      rw [e, if_neg (by simp)] at h
      obtain rfl : b + 1 = n := by simpa using h
      have e2 : negB (b + 1) = false := by unfold negB; exact decide_eq_false (by omega)
      refine ⟨?_, by omega, by omega⟩
      unfold ordW
      rw [e, e2]
      simp only [sgn, Bool.false_eq_true, if_false]
      omega
theorem num_expo {b : Int} {d : Dy} (h : numD b = some d) : expo b ≠ 2047 := by
  intro hh
  unfold numD at h
  rw [if_pos hh] at h
  cases h
theorem next_range {b : Int} (h0 : 0 ≤ b) (h1 : b < 18446744073709551616) : 0 ≤ (nextW b true).getD 0 ∧ (nextW b true).getD 0 < 18446744073709551616 := by
  cases h : nextW b true with
  | none => simp
  | some n =>
    simp only [Option.getD_some]
    unfold nextW at h
    by_cases a : kindI b = 4 ∨ (kindI b = 3 ∧ negB b ≠ true)
    · rw [if_pos a] at h; cases h
    · rw [if_neg a] at h
      by_cases c : kindI b = 0
      · rw [if_pos c] at h
        obtain rfl : 1 = n := by simpa using h
        omega
      · rw [if_neg c] at h
        have p := kind_pos h0 c
        have q := kind_lt h1 (fun hh => a (.inl hh))
        split at h
        · obtain rfl : b - 1 = n := by simpa using h
          omega
        · obtain rfl : b + 1 = n := by simpa using h
          omega
theorem order_facts {b n : Int} (c : Int) (h0 : 0 ≤ b) (h1 : b < 18446744073709551616) (hx : expo b ≠ 2047) (h : nextW b true = some n) :
    cmpI (numV b) (numV n) = -1 ∧ (cmpI (numV c) (numV b) ≤ 0 ∨ 0 ≤ cmpI (numV c) (numV n)) := by
  obtain ⟨ho, n0, n1⟩ := next_ord h0 h1 hx h
  have hl : numV b < numV n := sgn_lt (by omega) (by omega) (show ordW b < ordW n by omega)
  refine ⟨cmpI_lt hl, ?_⟩
  by_cases hc : ordW c ≤ ordW b
  · have := sgn_le (p := negB c) (q := negB b) (s := c % 9223372036854775808) (t := b % 9223372036854775808) (by omega) (by omega) hc
    left
    unfold cmpI numV
    split
    · omega
    · split <;> omega
  · have := sgn_le (p := negB n) (q := negB c) (s := n % 9223372036854775808) (t := c % 9223372036854775808) (by omega) (by omega) (show ordW n ≤ ordW c by omega)
    right
    unfold cmpI numV
    split
    · omega
    · split <;> omega
end Go.Proofs.YtlmojkknlkfloaaDoor
