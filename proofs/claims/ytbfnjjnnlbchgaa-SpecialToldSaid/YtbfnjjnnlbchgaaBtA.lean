/- Words that stand for binary64 numbers: kinds, signs, numbers, neighbours; the program's functions and the document's. -/
import Derived.Test.YtbfnjjnnlbchgaaDyB
namespace Go.Proofs.Ytbfnjjnnlbchgaa
open Go.RowKit Num
set_option maxRecDepth 100000

theorem and_mask {x : Int} (k : Nat) (hk : k ≤ 64) (h0 : 0 ≤ x) (h1 : x < 18446744073709551616) : bits .and .u64 x (pw k - 1) = x % pw k := by
  obtain ⟨n, rfl⟩ := Int.eq_ofNat_of_zero_le h0
  have h2 : (2 : Nat) ^ k ≤ 2 ^ 64 := Nat.pow_le_pow_right (by decide) hk
  have h3 : 0 < (2 : Nat) ^ k := Nat.two_pow_pos k
  have e : pw k - 1 = ((2 ^ k - 1 : Nat) : Int) := by
    have : pw k = ((2 ^ k : Nat) : Int) := by unfold pw; simp
    rw [this]; omega
  rw [e, bits_and_u64_nat n _ (by omega) (by omega), Nat.and_two_pow_sub_one_eq_mod]
  have : pw k = ((2 ^ k : Nat) : Int) := by unfold pw; simp
  rw [this]; simp
theorem and_2047 {x : Int} (h0 : 0 ≤ x) (h1 : x < 18446744073709551616) : bits .and .u64 x 2047 = x % 2048 := and_mask 11 (by decide) h0 h1
theorem and_unit {x : Int} (h0 : 0 ≤ x) (h1 : x < 18446744073709551616) : bits .and .u64 x 4503599627370495 = x % 4503599627370496 := and_mask 52 (by decide) h0 h1
theorem and_top {x : Int} (h0 : 0 ≤ x) (h1 : x < 18446744073709551616) : bits .and .u64 x 9223372036854775808 = if 9223372036854775808 ≤ x then 9223372036854775808 else 0 := by
  obtain ⟨n, rfl⟩ := Int.eq_ofNat_of_zero_le h0
  have e := bits_and_u64_nat n 9223372036854775808 (by omega) (by omega)
  have e4 : ((9223372036854775808 : Nat) : Int) = 9223372036854775808 := rfl
  rw [e4] at e
  rw [e]
  by_cases h : 9223372036854775808 ≤ n
  · rw [if_pos (by omega)]
    have e2 : n &&& 9223372036854775808 = 9223372036854775808 := by
      have hx := Nat.and_or_distrib_right (x := n % 2 ^ 63) (y := 2 ^ 63) (z := 2 ^ 63)
      have h1 : n % 2 ^ 63 ||| 2 ^ 63 = n := by
        have := Nat.two_pow_add_eq_or_of_lt (show n % 2 ^ 63 < 2 ^ 63 from Nat.mod_lt _ (by decide)) 1
        rw [Nat.mul_one] at this
        rw [Nat.or_comm, ← this]; omega
      have h2 : n % 2 ^ 63 &&& 2 ^ 63 = 0 := by
        apply Nat.eq_of_testBit_eq; intro i
        rw [Nat.testBit_and, Nat.testBit_two_pow, Nat.zero_testBit]
        by_cases hi : 63 = i
        · subst hi; rw [Nat.testBit_mod_two_pow]; simp
        · simp [hi]
      rw [h1, h2, Nat.and_self, Nat.zero_or] at hx
      exact hx
    rw [e2]; rfl
  · rw [if_neg (by omega)]
    have e2 : n &&& 9223372036854775808 = 0 := by
      apply Nat.eq_of_testBit_eq; intro i
      have : (9223372036854775808 : Nat) = 2 ^ 63 := rfl
      rw [this, Nat.testBit_and, Nat.testBit_two_pow, Nat.zero_testBit]
      by_cases hi : 63 = i
      · subst hi; rw [Nat.testBit_lt_two_pow (by omega)]; simp
      · simp [hi]
    rw [e2]; rfl
/-- A word's exponent, fraction, sign. -/
def expo (b : Int) : Int := b / 4503599627370496 % 2048
def frac (b : Int) : Int := b % 4503599627370496
def negB (b : Int) : Bool := decide (9223372036854775808 ≤ b)
def kindI (b : Int) : Int := if expo b = 2047 then (if frac b = 0 then 3 else 4) else if expo b = 0 then (if frac b = 0 then 0 else 1) else 2
theorem expo_range (b : Int) : 0 ≤ expo b ∧ expo b < 2048 := by unfold expo; omega
theorem frac_range (b : Int) : 0 ≤ frac b ∧ frac b < 4503599627370496 := by unfold frac; omega

theorem bsplit (b : Int) (w : World) (h0 : 0 ≤ b) (h1 : b < 18446744073709551616) :
    Calls Try.prog 24 #[.int .u64 b] w fun r w' => r = .returned (.tuple #[.int .i64 (expo b), .int .u64 (frac b)]) ∧ w = w' := by
  have a1 := and_2047 (x := b / 4503599627370496) (by omega) (by omega)
  have a2 := and_unit h0 h1
  have A1 := Lib.hid a1
  have A2 := Lib.hid a2
  clear a1 a2
  go_enter Try.func24, Try.ntmps24
  go_wp2
  go_ret2
  refine ⟨?_, rfl⟩
  have e1 : wrap64 (bits .and .u64 (b / 4503599627370496) 2047) = expo b := by
    rw [A1.out]; unfold wrap64 expo; omega
  have e2 : bits .and .u64 b 4503599627370495 = frac b := A2.out
  rw [← e1, ← e2]; rfl
theorem bkind (b : Int) (w : World) (h0 : 0 ≤ b) (h1 : b < 18446744073709551616) :
    Calls Try.prog 10 #[.int .u64 b] w fun r w' => r = .returned (.int .i64 (kindI b)) ∧ w = w' := by
  have K : Hid (kindI b = if expo b = 2047 then (if frac b = 0 then 3 else 4) else if expo b = 0 then (if frac b = 0 then 0 else 1) else 2) := rfl
  have C := bsplit b w h0 h1
  generalize expo b = x at *
  generalize frac b = f at *
  have HC := Lib.hid C
  clear C
  go_enter Try.func10, Try.ntmps10
  go_wp2_with fail
  refine HC.out.mono ?_
  rintro r w' ⟨rfl, rfl⟩
  go_wp2
  all_goals go_ret
  all_goals refine ⟨ret_i64 ?_, rfl⟩
  all_goals rw [K.out]
  all_goals (repeat' split) <;> first | rfl | omega | ((have hb : (f != 0) = true := by assumption); simp at hb; omega) | ((have hb : (f != 0) = false := by assumption); simp at hb; omega) | ((have hb : (x != 0) = true := by assumption); simp at hb; omega) | ((have hb : (x != 0) = false := by assumption); simp at hb; omega) | ((have hb : (x == 2047) = true := by assumption); simp at hb; omega) | ((have hb : (x == 2047) = false := by assumption); simp at hb; omega)
theorem rneg (b : Int) (w : World) :
    Calls Try.prog 18 #[.int .u64 b] w fun r w' => r = .returned (.bool (negB b)) ∧ w = w' := by
  go_enter Try.func18, Try.ntmps18
  go_wp2
  go_ret
  exact ⟨rfl, rfl⟩
theorem rparts (b : Int) (w : World) (h0 : 0 ≤ b) (h1 : b < 18446744073709551616) :
    Calls Try.prog 23 #[.int .u64 b] w fun r w' => r = .returned (.tuple #[.int .i64 (expo b), .int .u64 (frac b)]) ∧ w = w' := by
  have E : Hid (expo b = b / 4503599627370496 % 2048) := rfl
  have F : Hid (frac b = b % 4503599627370496) := rfl
  by_cases hb : 9223372036854775808 ≤ b
  · have hn : negB b = true := decide_eq_true hb
    go_enter Try.func23, Try.ntmps23
    go_wp2_with fail
    refine (rneg b w).mono ?_
    rintro r w' ⟨rfl, rfl⟩
    rw [hn]
    go_wp2
    go_ret2
    refine ⟨?_, rfl⟩
    have e1 : (b - 9223372036854775808) / 4503599627370496 = expo b := by rw [E.out]; omega
    have e2 : (b - 9223372036854775808) % 4503599627370496 = frac b := by rw [F.out]; omega
    rw [← e1, ← e2]; rfl
  · have hn : negB b = false := decide_eq_false hb
    go_enter Try.func23, Try.ntmps23
    go_wp2_with fail
    refine (rneg b w).mono ?_
    rintro r w' ⟨rfl, rfl⟩
    rw [hn]
    go_wp2
    go_ret2
    refine ⟨?_, rfl⟩
    have e1 : b / 4503599627370496 = expo b := by rw [E.out]; omega
    have e2 : b % 4503599627370496 = frac b := by rw [F.out]
    rw [← e1, ← e2]; rfl
theorem rkind (b : Int) (w : World) (h0 : 0 ≤ b) (h1 : b < 18446744073709551616) :
    Calls Try.prog 9 #[.int .u64 b] w fun r w' => r = .returned (.int .i64 (kindI b)) ∧ w = w' := by
  have K : Hid (kindI b = if expo b = 2047 then (if frac b = 0 then 3 else 4) else if expo b = 0 then (if frac b = 0 then 0 else 1) else 2) := rfl
  have C := rparts b w h0 h1
  have R := expo_range b
  generalize expo b = x at *
  generalize frac b = f at *
  have HC := Lib.hid C
  clear C
  go_enter Try.func9, Try.ntmps9
  go_wp2_with fail
  refine HC.out.mono ?_
  rintro r w' ⟨rfl, rfl⟩
  go_wp2
  all_goals go_ret
  all_goals refine ⟨ret_i64 ?_, rfl⟩
  all_goals rw [K.out]
  all_goals (repeat' split) <;> first | rfl | omega | ((have hb : (f == 0) = true := by assumption); simp at hb; omega) | ((have hb : (f == 0) = false := by assumption); simp at hb; omega) | ((have hb : (x == 0) = true := by assumption); simp at hb; omega) | ((have hb : (x == 0) = false := by assumption); simp at hb; omega)
def nextW (b : Int) (up : Bool) : Option Int :=
  if kindI b = 4 ∨ (kindI b = 3 ∧ negB b ≠ up) then none
  else if kindI b = 0 then some (if up then 1 else 9223372036854775809)
  else if negB b = up then some (b - 1) else some (b + 1)
/-- A word, and whether there is one. -/
def RetW (o : Option Int) (w : World) (r : Ending) (w' : World) : Prop := r = .returned (.tuple #[.int .u64 (o.getD 0), .bool o.isSome]) ∧ w = w'
theorem kind_pos {b : Int} (h : 0 ≤ b) (hk : kindI b ≠ 0) : 1 ≤ b := by
  by_cases h0 : b = 0
  · subst h0; exact absurd (by decide) hk
  · omega
theorem kind_lt {b : Int} (h : b < 18446744073709551616) (hk : kindI b ≠ 4) : b + 1 < 18446744073709551616 := by
  by_cases h0 : b = 18446744073709551615
  · subst h0; exact absurd (by decide) hk
  · omega
end Go.Proofs.Ytbfnjjnnlbchgaa
