/- Rounding keeps the order, and stays between a word's neighbours: the plain part. -/
import Derived.Test.YtlmojkknlkfloaaDoorRdG
import Derived.Test.YtlmojkknlkfloaaDoorBtO
namespace Go.Proofs.YtlmojkknlkfloaaDoor
open Go.RowKit Num
set_option linter.unusedSimpArgs false
set_option linter.unusedVariables false
set_option maxRecDepth 100000

theorem mag_word {q E : Int} (h0 : 0 ≤ q) (h1 : q ≤ 9007199254740992) (hE : -1074 ≤ E) (hn : E = -1074 ∨ 4503599627370496 ≤ q) :
    mag (q + (E + 1074) * 4503599627370496) = q * pw (E + 1074).toNat := by
  obtain ⟨g, hg⟩ : ∃ g : Nat, E + 1074 = (g : Int) := ⟨(E + 1074).toNat, by omega⟩
  rw [hg, Int.toNat_natCast]
  unfold mag
  by_cases c1 : q < 4503599627370496
  · obtain rfl : g = 0 := by omega
    have e1 : (q + ((0 : Nat) : Int) * 4503599627370496) / 4503599627370496 = 0 := by omega
    rw [if_pos e1]
    show _ = q * 1
    omega
  · by_cases c2 : q = 9007199254740992
    · have e1 : (q + (g : Int) * 4503599627370496) / 4503599627370496 = g + 2 := by omega
      have e2 : (q + (g : Int) * 4503599627370496) % 4503599627370496 = 0 := by omega
      rw [e1, e2, if_neg (by omega), show ((g : Int) + 2 - 1).toNat = g + 1 by omega, pw_add, c2]
      have : pw 1 = 2 := rfl
      rw [this]; omega
    · have e1 : (q + (g : Int) * 4503599627370496) / 4503599627370496 = g + 1 := by omega
      have e2 : (q + (g : Int) * 4503599627370496) % 4503599627370496 = q - 4503599627370496 := by omega
      rw [e1, e2, if_neg (by omega), show ((g : Int) + 1 - 1).toNat = g by omega, Int.sub_add_cancel]
/-- mag at a lower level. -/
theorem mag_at {q E L : Int} (h0 : 0 ≤ q) (h1 : q ≤ 9007199254740992) (hE : -1074 ≤ E) (hn : E = -1074 ∨ 4503599627370496 ≤ q) (hL : L ≤ -1074) :
    mag (q + (E + 1074) * 4503599627370496) * pw (-1074 - L).toNat = q * pw (E - L).toNat := by
  rw [mag_word h0 h1 hE hn, Int.mul_assoc, ← pw_add, show (E + 1074).toNat + (-1074 - L).toNat = (E - L).toNat by omega]
/-- Is one unit more taken, by how far a number is from the middle? -/
def moreH (neg : Bool) (q0 mode h : Int) : Bool :=
  if mode = 0 then decide (0 < h) || (decide (h = 0) && decide (q0 % 2 = 1)) else if mode = 2 then !neg else if mode = 3 then neg else if mode = 4 then decide (0 ≤ h) else false
def upB (neg : Bool) (q0 mode V U : Int) : Bool := decide (V ≠ q0 * U) && moreH neg q0 mode (cmpI (2 * V) ((2 * q0 + 1) * U))
theorem cmpI_shift (x y z : Int) : cmpI (x - z) y = cmpI x (y + z) := by
  unfold cmpI
  (repeat' split) <;> omega
/-- The word without its sign, if words had no end. -/
def rawW (neg : Bool) (v e mode : Int) : Int := unitsI neg v e (gridE v e) mode + (gridE v e + 1074) * 4503599627370496
theorem rnd (neg : Bool) {v e L : Int} (mode : Int) (hv : 0 < v) (ho : v % 2 = 1) (hL : L ≤ e) (hL' : L ≤ -1074) :
    ∃ q0 E : Int, 0 ≤ q0 ∧ q0 < 9007199254740992 ∧ -1074 ≤ E ∧ (E = -1074 ∨ 4503599627370496 ≤ q0) ∧ q0 * pw (E - L).toNat ≤ lev v e L ∧ lev v e L < (q0 + 1) * pw (E - L).toNat ∧
      rawW neg v e mode = q0 + (E + 1074) * 4503599627370496 + (if upB neg q0 mode (lev v e L) (pw (E - L).toNat) then 1 else 0) := by
  have hg : bl v + e - 53 ≤ gridE v e := by unfold gridE; omega
  have hg1 : -1074 ≤ gridE v e := by unfold gridE; omega
  have hg2 : gridE v e = -1074 ∨ gridE v e = bl v + e - 53 := by unfold gridE; omega
  obtain ⟨a, ha, h0, h1⟩ := bl_spec hv
  unfold rawW unitsI
  generalize gridE v e = E at *
  by_cases c : E ≤ e
  · rw [if_pos c]
    obtain ⟨t0, t1⟩ := mul_bl (k := (e - E).toNat) hv
    have u0 : (0 : Int) < v * 2 ^ (e - E).toNat := Int.mul_pos hv (Int.pow_pos (by decide))
    have u1 := pw_le (a := (bl v + ((e - E).toNat : Nat)).toNat) (b := 53) (by omega)
    rw [pw53] at u1
    have u2 : E = bl v + e - 53 → 4503599627370496 ≤ v * 2 ^ (e - E).toNat := by
      intro h
      have := pw_le (a := 52) (b := (bl v - 1 + ((e - E).toNat : Nat)).toNat) (by omega)
      rw [pw52] at this
      omega
    have ev : v * 2 ^ (e - E).toNat * pw (E - L).toNat = lev v e L := by
      unfold lev
      show v * pw (e - E).toNat * _ = _
      rw [Int.mul_assoc, ← pw_add, show (e - E).toNat + (E - L).toNat = (e - L).toNat by omega]
    have hU := pw_pos (E - L).toNat
    refine ⟨v * 2 ^ (e - E).toNat, E, by omega, by omega, hg1, by rcases hg2 with h | h; exact .inl h; exact .inr (u2 h), by omega, by rw [Int.add_mul]; omega, ?_⟩
    have : upB neg (v * 2 ^ (e - E).toNat) mode (lev v e L) (pw (E - L).toNat) = false := by
      unfold upB
      rw [← ev]
      simp
    rw [this]; simp
  · rw [if_neg c]
    obtain ⟨k, hk⟩ : ∃ k : Nat, E - e = (k : Int) := ⟨(E - e).toNat, by omega⟩
    have hk0 : 0 < k := by omega
    rw [hk, Int.toNat_natCast]
    have hp := pw_pos k
    have q0 : 0 ≤ v / pw k := Int.ediv_nonneg (by omega) (by omega)
    have q1 : v / pw k < 9007199254740992 := by
      refine Int.ediv_lt_of_lt_mul hp ?_
      rw [← pw53, ← pw_add]
      have := pw_le (a := a + 1) (b := 53 + k) (by omega)
      omega
    have q2 : E = bl v + e - 53 → 4503599627370496 ≤ v / pw k := by
      intro h
      refine (Int.le_ediv_iff_mul_le hp).2 ?_
      rw [← pw52, ← pw_add]
      have := pw_le (a := 52 + k) (b := a) (by omega)
      omega
    have hU : pw (E - L).toNat = pw k * pw (e - L).toNat := by rw [← pw_add, show k + (e - L).toNat = (E - L).toNat by omega]
    have hT := pw_pos (e - L).toNat
    have d0 : v / pw k * pw k ≤ v := Int.ediv_mul_le _ (by omega)
    have d1 : v < (v / pw k + 1) * pw k := Int.lt_ediv_add_one_mul_self _ hp
    have d2 : v / pw k * pw k ≠ v := odd_cut ho hk0
    have hm := more_eq (neg := neg) (mode := mode) hk0 ho
    have e0 : v / pw k * pw (E - L).toNat ≤ lev v e L := by
      unfold lev
      rw [hU, ← Int.mul_assoc]
      exact Int.mul_le_mul_of_nonneg_right d0 (by omega)
    have e1 : lev v e L < (v / pw k + 1) * pw (E - L).toNat := by
      unfold lev
      rw [hU, ← Int.mul_assoc]
      exact Int.mul_lt_mul_of_pos_right d1 hT
    have e2 : lev v e L ≠ v / pw k * pw (E - L).toNat := by
      unfold lev
      rw [hU, ← Int.mul_assoc]
      intro hh
      have := Int.eq_of_mul_eq_mul_right (by omega) hh
      omega
    have e3 : cmpI (v - v / pw k * pw k) (pw (k - 1)) = cmpI (2 * lev v e L) ((2 * (v / pw k) + 1) * pw (E - L).toNat) := by
      rw [← cmpI_scale (p := 2 * pw (e - L).toNat) (by omega), hU]
      have s1 : (v - v / pw k * pw k) * (2 * pw (e - L).toNat) = 2 * lev v e L - 2 * (v / pw k) * (pw k * pw (e - L).toNat) := by unfold lev; grind
      have s2 : pw (k - 1) * (2 * pw (e - L).toNat) = pw k * pw (e - L).toNat := by
        have : pw k = pw (k - 1) * 2 := by
          conv => lhs; rw [show k = k - 1 + 1 by omega]
          rw [pw_add]; rfl
        rw [this]; grind
      rw [s1, s2, cmpI_shift]
      congr 1
      grind
    refine ⟨v / pw k, E, q0, q1, hg1, by rcases hg2 with h | h; exact .inl h; exact .inr (q2 h), e0, e1, ?_⟩
    have hup : upB neg (v / pw k) mode (lev v e L) (pw (E - L).toNat) = moreB neg v k mode := by
      unfold upB
      rw [decide_eq_true e2, Bool.true_and, ← e3, ← hm]
      rfl
    rw [hup]
    show v / pw k + _ + _ = _
    omega
theorem moreH_mono {neg : Bool} {q0 mode h h' : Int} (hh : h ≤ h') (hr : -1 ≤ h) (hr' : h' ≤ 1) (hm : moreH neg q0 mode h = true) : moreH neg q0 mode h' = true := by
  unfold moreH at *
  by_cases m0 : mode = 0
  · rw [if_pos m0] at *
    rw [Bool.or_eq_true, Bool.and_eq_true] at *
    rcases hm with hm | ⟨h1, h2⟩
    · left; have := of_decide_eq_true hm; exact decide_eq_true (by omega)
    · have := of_decide_eq_true h1
      by_cases h3 : 0 < h'
      · left; exact decide_eq_true h3
      · right; exact ⟨decide_eq_true (by omega), h2⟩
  · rw [if_neg m0] at *
    by_cases m2 : mode = 2
    · rw [if_pos m2] at *; exact hm
    · rw [if_neg m2] at *
      by_cases m3 : mode = 3
      · rw [if_pos m3] at *; exact hm
      · rw [if_neg m3] at *
        by_cases m4 : mode = 4
        · rw [if_pos m4] at *
          have := of_decide_eq_true hm
          exact decide_eq_true (by omega)
        · rw [if_neg m4] at *; cases hm
theorem cmpI_mono {x x' y : Int} (h : x ≤ x') : cmpI x y ≤ cmpI x' y := by
  unfold cmpI
  (repeat' split) <;> omega
theorem upB_mono {neg : Bool} {q0 mode V V' U : Int} (h0 : q0 * U ≤ V) (h : V ≤ V') (hu : upB neg q0 mode V U = true) : upB neg q0 mode V' U = true := by
  unfold upB at *
  rw [Bool.and_eq_true] at *
  have h1 := of_decide_eq_true hu.1
  refine ⟨decide_eq_true (by omega), ?_⟩
  exact moreH_mono (cmpI_mono (by omega)) (cmpI_range _ _).1 (cmpI_range _ _).2 hu.2
/-- A greater number's word isn't less. -/
theorem raw_mono (neg : Bool) {v e v' e' L mode : Int} (hv : 0 < v) (ho : v % 2 = 1) (hv' : 0 < v') (ho' : v' % 2 = 1) (hL : L ≤ e) (hL' : L ≤ e') (hL0 : L ≤ -1074) (h : lev v e L ≤ lev v' e' L) :
    rawW neg v e mode ≤ rawW neg v' e' mode := by
  obtain ⟨q, E, a0, a1, a2, a3, a4, a5, a6⟩ := rnd neg mode hv ho hL hL0
  obtain ⟨q', E', b0, b1, b2, b3, b4, b5, b6⟩ := rnd neg mode hv' ho' hL' hL0
  rw [a6, b6]
  have m0 := mag_at (L := L) a0 (by omega) a2 a3 hL0
  have m1 := mag_at (q := q' + 1) (E := E') (L := L) (by omega) (by omega) b2 (by omega) hL0
  rw [← m0] at a4
  rw [← m1] at b5
  have hlt : mag (q + (E + 1074) * 4503599627370496) < mag (q' + 1 + (E' + 1074) * 4503599627370496) := by
    have : mag (q + (E + 1074) * 4503599627370496) * pw (-1074 - L).toNat < mag (q' + 1 + (E' + 1074) * 4503599627370496) * pw (-1074 - L).toNat := by omega
    exact Int.lt_of_mul_lt_mul_right this (Int.le_of_lt (pw_pos _))
  have hle : q + (E + 1074) * 4503599627370496 ≤ q' + (E' + 1074) * 4503599627370496 := by
    refine Decidable.byContradiction fun hh => ?_
    have := mag_le (x := q' + 1 + (E' + 1074) * 4503599627370496) (y := q + (E + 1074) * 4503599627370496) (by omega) (by omega)
    omega
  by_cases he : q + (E + 1074) * 4503599627370496 = q' + (E' + 1074) * 4503599627370496
  · obtain rfl : E = E' := by omega
    obtain rfl : q = q' := by omega
    cases hu : upB neg q mode (lev v e L) (pw (E - L).toNat)
    · simp only [Bool.false_eq_true, if_false]; split <;> omega
    · rw [m0] at a4
      rw [upB_mono a4 h hu]
      omega
  · split <;> split <;> omega
/-- What is rounded lies within a neighbour of the word. -/
theorem raw_near (neg : Bool) {v e L : Int} (mode : Int) (hv : 0 < v) (ho : v % 2 = 1) (hL : L ≤ e) (hL0 : L ≤ -1074) :
    0 ≤ rawW neg v e mode ∧ (0 < rawW neg v e mode → mag (rawW neg v e mode - 1) * pw (-1074 - L).toNat < lev v e L) ∧ lev v e L < mag (rawW neg v e mode + 1) * pw (-1074 - L).toNat ∧
      ((moreB neg v (gridE v e - e).toNat mode = false) → mag (rawW neg v e mode) * pw (-1074 - L).toNat ≤ lev v e L) := by
  obtain ⟨q, E, a0, a1, a2, a3, a4, a5, a6⟩ := rnd neg mode hv ho hL hL0
  have m0 := mag_at (L := L) a0 (by omega) a2 a3 hL0
  have m1 := mag_at (q := q + 1) (E := E) (L := L) (by omega) (by omega) a2 (by omega) hL0
  have hs := pw_pos (-1074 - L).toNat
  rw [← m0] at a4
  rw [← m1] at a5
  have lt_of : ∀ x y : Int, 0 ≤ x → x < y → mag x * pw (-1074 - L).toNat < mag y * pw (-1074 - L).toNat := fun x y h0 h => Int.mul_lt_mul_of_pos_right (mag_lt h0 h) hs
  have le_of : ∀ x y : Int, 0 ≤ x → x ≤ y → mag x * pw (-1074 - L).toNat ≤ mag y * pw (-1074 - L).toNat := fun x y h0 h => Int.mul_le_mul_of_nonneg_right (mag_le h0 h) (by omega)
  cases hu : upB neg q mode (lev v e L) (pw (E - L).toNat)
  · rw [hu] at a6
    simp only [Bool.false_eq_true, if_false, Int.add_zero] at a6
    rw [a6]
    refine ⟨by omega, fun h => ?_, ?_, fun _ => a4⟩
    · have := lt_of (q + (E + 1074) * 4503599627370496 - 1) (q + (E + 1074) * 4503599627370496) (by omega) (by omega)
      omega
    · rw [show q + (E + 1074) * 4503599627370496 + 1 = q + 1 + (E + 1074) * 4503599627370496 by omega]; exact a5
  · rw [hu] at a6
    simp only [if_true] at a6
    rw [a6]
    have hne : lev v e L ≠ q * pw (E - L).toNat := by
      unfold upB at hu
      rw [Bool.and_eq_true] at hu
      exact of_decide_eq_true hu.1
    rw [← m0] at hne
    refine ⟨by omega, fun h => ?_, ?_, fun hm => ?_⟩
    · rw [Int.add_sub_cancel]; omega
    · have := le_of (q + 1 + (E + 1074) * 4503599627370496) (q + (E + 1074) * 4503599627370496 + 1 + 1) (by omega) (by omega)
      omega
    · exfalso
      have hr : rawW neg v e mode = rawW neg v e 1 := by
        unfold rawW unitsI
        have e1 : moreB neg v (gridE v e - e).toNat 1 = false := rfl
        rw [hm, e1]
      obtain ⟨q2, E2, c0, c1, c2, c3, c4, c5, c6⟩ := rnd neg 1 hv ho hL hL0
      have hf : upB neg q2 1 (lev v e L) (pw (E2 - L).toNat) = false := by unfold upB moreH; simp
      rw [hf] at c6
      simp only [Bool.false_eq_true, if_false, Int.add_zero] at c6
      have n0 := mag_at (L := L) c0 (by omega) c2 c3 hL0
      rw [← n0, ← c6, ← hr, a6] at c4
      rw [show q + (E + 1074) * 4503599627370496 + 1 = q + 1 + (E + 1074) * 4503599627370496 by omega] at c4
      omega
end Go.Proofs.YtlmojkknlkfloaaDoor
