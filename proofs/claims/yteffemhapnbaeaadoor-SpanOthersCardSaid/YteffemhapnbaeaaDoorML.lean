/- Words that stand for binary64 numbers: kinds, signs, numbers, neighbours; the program's functions and the document's. -/
import Derived.Test.YteffemhapnbaeaaDoorMK
import Derived.Test.YteffemhapnbaeaaDoorMD
namespace Go.Proofs.YteffemhapnbaeaaDoor
open Go.RowKit Num
set_option maxRecDepth 100000

theorem and_mask {x : Int} (k : Nat) (hk : k ≤ 64) (h0 : 0 ≤ x) (h1 : x < 18446744073709551616) : bits .and .u64 x (pw k - 1) = x % pw k := by
  obtain ⟨n, rfl⟩ := Int.eq_ofNat_of_zero_le h0
  have h2 : (2 : Nat) ^ k ≤ 2 ^ 64 := Nat.pow_le_pow_right (by decide) hk
  have h3 : 0 < (2 : Nat) ^ k := Nat.two_pow_pos k
  have e : pw k - 1 = ((2 ^ k - 1 : Nat) : Int) := by
    have : pw k = ((2 ^ k : Nat) : Int) := by unfold pw; simp
    rw [this]; omega
  rw [e, bits_and_u64_nat n _ (by omega) (by omega), Nat.and_two_pow_sub_one_eq_mod]
  have : pw k = ((2 ^ k : Nat) : Int) := by unfold pw; simp
  rw [this]; simp
theorem and_2047 {x : Int} (h0 : 0 ≤ x) (h1 : x < 18446744073709551616) : bits .and .u64 x 2047 = x % 2048 := and_mask 11 (by decide) h0 h1
theorem and_unit {x : Int} (h0 : 0 ≤ x) (h1 : x < 18446744073709551616) : bits .and .u64 x 4503599627370495 = x % 4503599627370496 := and_mask 52 (by decide) h0 h1
theorem and_top {x : Int} (h0 : 0 ≤ x) (h1 : x < 18446744073709551616) : bits .and .u64 x 9223372036854775808 = if 9223372036854775808 ≤ x then 9223372036854775808 else 0 := by
  obtain ⟨n, rfl⟩ := Int.eq_ofNat_of_zero_le h0
  have e := bits_and_u64_nat n 9223372036854775808 (by omega) (by omega)
  have e4 : ((9223372036854775808 : Nat) : Int) = 9223372036854775808 := rfl
  rw [e4] at e
  rw [e]
  by_cases h : 9223372036854775808 ≤ n
  · rw [if_pos (by omega)]
    have e2 : n &&& 9223372036854775808 = 9223372036854775808 := by
      have hx := Nat.and_or_distrib_right (x := n % 2 ^ 63) (y := 2 ^ 63) (z := 2 ^ 63)
      have h1 : n % 2 ^ 63 ||| 2 ^ 63 = n := by
        have := Nat.two_pow_add_eq_or_of_lt (show n % 2 ^ 63 < 2 ^ 63 from Nat.mod_lt _ (by decide)) 1
        rw [Nat.mul_one] at this
        rw [Nat.or_comm, ← this]; omega
      have h2 : n % 2 ^ 63 &&& 2 ^ 63 = 0 := by
        apply Nat.eq_of_testBit_eq; intro i
        rw [Nat.testBit_and, Nat.testBit_two_pow, Nat.zero_testBit]
        by_cases hi : 63 = i
        · subst hi; rw [Nat.testBit_mod_two_pow]; simp
        · simp [hi]
      rw [h1, h2, Nat.and_self, Nat.zero_or] at hx
      exact hx
    rw [e2]; rfl
  · rw [if_neg (by omega)]
    have e2 : n &&& 9223372036854775808 = 0 := by
      apply Nat.eq_of_testBit_eq; intro i
      have : (9223372036854775808 : Nat) = 2 ^ 63 := rfl
      rw [this, Nat.testBit_and, Nat.testBit_two_pow, Nat.zero_testBit]
      by_cases hi : 63 = i
      · subst hi; rw [Nat.testBit_lt_two_pow (by omega)]; simp
      · simp [hi]
    rw [e2]; rfl
/-- A word's exponent, fraction, sign. -/
def expo (b : Int) : Int := b / 4503599627370496 % 2048
def frac (b : Int) : Int := b % 4503599627370496
def negB (b : Int) : Bool := decide (9223372036854775808 ≤ b)
def kindI (b : Int) : Int := if expo b = 2047 then (if frac b = 0 then 3 else 4) else if expo b = 0 then (if frac b = 0 then 0 else 1) else 2
theorem expo_range (b : Int) : 0 ≤ expo b ∧ expo b < 2048 := by unfold expo; omega
theorem frac_range (b : Int) : 0 ≤ frac b ∧ frac b < 4503599627370496 := by unfold frac; omega

def nextW (b : Int) (up : Bool) : Option Int :=
  if kindI b = 4 ∨ (kindI b = 3 ∧ negB b ≠ up) then none
  else if kindI b = 0 then some (if up then 1 else 9223372036854775809)
  else if negB b = up then some (b - 1) else some (b + 1)
/-- A word, and whether there is one. -/
def RetW (o : Option Int) (w : World) (r : Ending) (w' : World) : Prop := r = .returned (.tuple #[.int .u64 (o.getD 0), .bool o.isSome]) ∧ w = w'
theorem kind_pos {b : Int} (h : 0 ≤ b) (hk : kindI b ≠ 0) : 1 ≤ b := by
  by_cases h0 : b = 0
  · subst h0; exact absurd (by decide) hk
  · omega
theorem kind_lt {b : Int} (h : b < 18446744073709551616) (hk : kindI b ≠ 4) : b + 1 < 18446744073709551616 := by
  by_cases h0 : b = 18446744073709551615
  · subst h0; exact absurd (by decide) hk
  · omega
end Go.Proofs.YteffemhapnbaeaaDoor
/- Same; a word's number. -/
namespace Go.Proofs.YteffemhapnbaeaaDoor
open Go.RowKit Num
set_option maxRecDepth 100000

def sameB (p q : Bool) (xs ys : List Int) (e f : Int) : Bool := p == q && (e == f && decide (xs = ys))
theorem same02 (p q : Bool) (A A' : Option Addr) (n c n' c' : Nat) (xs ys : List Int) (e f : Int) (w : World) (h : Arr w A n c xs) (h' : Arr w A' n' c' ys) :
    Calls Tryd.prog 42 #[.agg #[.bool p, .slice A n c, .int .i64 e], .agg #[.bool q, .slice A' n' c', .int .i64 f]] w fun r w' => r = .returned (.bool (sameB p q xs ys e f)) ∧ Below w.heap.size w w' := by
  have S : Hid (sameB p q xs ys e f = (p == q && (e == f && decide (xs = ys)))) := rfl
  generalize sameB p q xs ys e f = s at *
  generalize hx : decide (xs = ys) = d at *
  have HX := Lib.hid hx
  clear hx
  go_enter Tryd.func42, Tryd.ntmps42
  go_wp2_with fail
  · have hb : Below w.heap.size w ((w.alloc (.cells #[.bool q, .slice A n c, .int .i64 f] 26)).alloc (.cells #[.bool q, .slice A' n' c', .int .i64 f] 26)) := (by repeat (first | with_reducible assumption | exact below_self _ | refine below_set ?_ _ _ (by first | exact Nat.le_refl _ | omega | (simp; done) | (simp; omega)) _ | refine below_alloc ?_ _ | apply Below.drew | apply below_drewN))
    have z1 : p = q := by assumption
    have z2 : e = f := by assumption
    refine (same01 A A' n c n' c' xs ys _ (h.below hb) (h'.below hb)).mono ?_
    rintro r w' ⟨rfl, hs⟩
    have bw := hb.trans (hs.below _)
    have hs' : s = decide (xs = ys) := by rw [S.out, z1, z2, ← HX.out]; simp
    have HS := Lib.hid hs'
    clear hs'
    rw [HX.out]
    go_wp2_with fail
    go_ret
    exact ⟨by rw [HS.out, HX.out]; rfl, bw⟩
  · have z2 : ¬ e = f := by assumption
    have hs' : s = false := by rw [S.out]; simp [z2]
    go_ret
    exact ⟨by rw [hs']; first | rfl | simp [z2], (by repeat (first | with_reducible assumption | exact below_self _ | refine below_set ?_ _ _ (by first | exact Nat.le_refl _ | omega | (simp; done) | (simp; omega)) _ | refine below_alloc ?_ _ | apply Below.drew | apply below_drewN))⟩
  · have z2 : ¬ p = q := by assumption
    have hs' : s = false := by rw [S.out]; simp [z2]
    go_ret
    exact ⟨by rw [hs']; first | rfl | simp [z2], (by repeat (first | with_reducible assumption | exact below_self _ | refine below_set ?_ _ _ (by first | exact Nat.le_refl _ | omega | (simp; done) | (simp; omega)) _ | refine below_alloc ?_ _ | apply Below.drew | apply below_drewN))⟩
theorem retD_set {w w4 : World} {o : Option Dy} {A : Option Addr} {n c g : Nat} {t : TypeId} {p : Bool} {A' : Option Addr} {n' c' : Nat} {e : Int} (h : Arr w4 A n c (wd (optD o).m)) (hb : Box w4 g #[.bool p, .slice A' n' c', .int .i64 e] t) (hw : Below w.heap.size w w4) (hg : w.heap.size ≤ g) :
    RetD o w (.returned (.tuple #[.agg #[.bool (optD o).neg, .slice A n c, .int .i64 (optD o).e], .bool o.isSome])) (((w4.setCell ⟨g, 0, none⟩ (.bool (optD o).neg)).setCell ⟨g, 1, none⟩ (.slice A n c)).setCell ⟨g, 2, none⟩ (.int .i64 (optD o).e)) :=
  ⟨A, n, c, rfl, h.set3 hb _ _ _ (by simp) (by simp), below_set (below_set (below_set hw _ _ hg _) _ _ hg _) _ _ hg _⟩
end Go.Proofs.YteffemhapnbaeaaDoor
