/- The order of two numbers with finitely many binary digits, in numbers alone. -/
import Derived.Test.YtbfnjjnnlbchgaaDoorDyB
import Derived.Test.YtbfnjjnnlbchgaaDoorNatC
namespace Go.Proofs.YtbfnjjnnlbchgaaDoor
open Go.RowKit Num

/-- m times 2 to the e, in units of 2 to the L. -/
def lev (m e L : Int) : Int := m * pw (e - L).toNat
def sgn (neg : Bool) (v : Int) : Int := if neg then -v else v
/-- Which one is greater. -/
def cmpD (a b : Dy) : Int := cmpI (sgn a.neg (lev a.m a.e (min a.e b.e))) (sgn b.neg (lev b.m b.e (min a.e b.e)))
theorem cmpI_neg (x y : Int) : cmpI (-x) (-y) = -cmpI x y := by unfold cmpI; repeat' split <;> omega
theorem cmpI_flip (x y : Int) : cmpI y x = -cmpI x y := by unfold cmpI; repeat' split <;> omega
theorem cmpI_scale {p : Int} (hp : 0 < p) (x y : Int) : cmpI (x * p) (y * p) = cmpI x y := by
  have h1 : x * p < y * p ↔ x < y := ⟨fun h => Int.lt_of_mul_lt_mul_right h (Int.le_of_lt hp), fun h => Int.mul_lt_mul_of_pos_right h hp⟩
  have h2 : x * p = y * p ↔ x = y := ⟨fun h => Int.eq_of_mul_eq_mul_right (by omega) h, fun h => by rw [h]⟩
  unfold cmpI
  simp only [h1, h2]
theorem lev_down {m e L L' : Int} (h : L' ≤ L) (h' : L ≤ e) : lev m e L' = lev m e L * pw (L - L').toNat := by
  unfold lev
  rw [Int.mul_assoc, ← pw_add]
  congr 2
  omega
theorem lev_self (m e : Int) : lev m e e = m := by unfold lev; rw [Int.sub_self]; show m * 2 ^ 0 = m; omega
theorem lev_zero (e L : Int) : lev 0 e L = 0 := by unfold lev; rw [Int.zero_mul]
theorem lev_pos {m : Int} (h : 0 < m) (e L : Int) : 0 < lev m e L := Int.mul_pos h (pw_pos _)
theorem lev_nonneg {m : Int} (h : 0 ≤ m) (e L : Int) : 0 ≤ lev m e L := Int.mul_nonneg h (Int.le_of_lt (pw_pos _))
theorem sgn_mul (n : Bool) (x p : Int) : sgn n (x * p) = sgn n x * p := by cases n <;> simp [sgn, Int.neg_mul]
theorem cmpD_at {a b : Dy} {L : Int} (ha : L ≤ a.e) (hb : L ≤ b.e) : cmpD a b = cmpI (sgn a.neg (lev a.m a.e L)) (sgn b.neg (lev b.m b.e L)) := by
  unfold cmpD
  rw [lev_down (m := a.m) (L := min a.e b.e) (L' := L) (by omega) (by omega), lev_down (m := b.m) (L := min a.e b.e) (L' := L) (by omega) (by omega), sgn_mul, sgn_mul, cmpI_scale (pw_pos _)]
/-- What a plain number's parts are. -/
structure PD (d : Dy) : Prop where
  nn : 0 ≤ d.m
  z : d.m = 0 → d.e = 0 ∧ d.neg = false
  lo : -262144 ≤ d.e
  hi : d.e ≤ 262144
theorem cmp_signs {a b : Dy} (ha : PD a) (hb : PD b) (h : a.neg ≠ b.neg) : cmpD a b = if a.neg then -1 else 1 := by
  obtain ⟨p, m, e⟩ := a
  obtain ⟨q, v, f⟩ := b
  simp only at h
  have m0 := ha.nn; have v0 := hb.nn; have mz := ha.z; have vz := hb.z
  simp only at m0 v0 mz vz
  unfold cmpD
  simp only
  have l1 := lev_nonneg m0 e (min e f)
  have l2 := lev_nonneg v0 f (min e f)
  cases p
  · obtain rfl : q = true := by cases q <;> simp_all
    have : 0 < v := by
      by_cases hv : v = 0
      · have := (vz hv).2; cases this
      · omega
    have := lev_pos this f (min e f)
    exact cmpI_gt (show -lev v f (min e f) < lev m e (min e f) by omega)
  · obtain rfl : q = false := by cases q <;> simp_all
    have : 0 < m := by
      by_cases hv : m = 0
      · have := (mz hv).2; cases this
      · omega
    have := lev_pos this e (min e f)
    exact cmpI_lt (show -lev m e (min e f) < lev v f (min e f) by omega)
theorem sgn_cmp (n : Bool) (x y : Int) : cmpI (sgn n x) (sgn n y) = (if n then -1 else 1) * cmpI x y := by
  cases n
  · simp [sgn]
  · simp [sgn, cmpI_neg]
theorem lev_top {m v e f L : Int} (hm : 0 < m) (hv : 0 < v) (h : bl m + e < bl v + f) (h1 : L ≤ e) (h2 : L ≤ f) : lev m e L < lev v f L := by
  obtain ⟨a, ea, a0, a1⟩ := bl_spec hm
  obtain ⟨b, eb, b0, b1⟩ := bl_spec hv
  unfold lev
  have k1 : m * pw (e - L).toNat < pw (a + 1) * pw (e - L).toNat := Int.mul_lt_mul_of_pos_right a1 (pw_pos _)
  have k2 : pw b * pw (f - L).toNat ≤ v * pw (f - L).toNat := Int.mul_le_mul_of_nonneg_right b0 (Int.le_of_lt (pw_pos _))
  rw [← pw_add] at k1 k2
  have k3 : pw (a + 1 + (e - L).toNat) ≤ pw (b + (f - L).toNat) := pw_le (by omega)
  omega
theorem cmp_lt {a b : Dy} (h : a.neg = b.neg) (ha : 0 < a.m) (hb : 0 < b.m) (ht : bl a.m + a.e < bl b.m + b.e) : cmpD a b = (if a.neg then 1 else -1) := by
  unfold cmpD
  rw [← h, sgn_cmp, cmpI_lt (lev_top ha hb ht (by omega) (by omega))]
  cases a.neg <;> rfl
theorem cmp_gt {a b : Dy} (h : a.neg = b.neg) (ha : 0 < a.m) (hb : 0 < b.m) (ht : bl b.m + b.e < bl a.m + a.e) : cmpD a b = (if a.neg then -1 else 1) := by
  unfold cmpD
  rw [← h, sgn_cmp, cmpI_gt (lev_top hb ha ht (by omega) (by omega))]
  cases a.neg <;> rfl
theorem cmp_zero_left {a b : Dy} (h : a.neg = b.neg) (ha : PD a) (hm : a.m = 0) : cmpD a b = (if a.neg then -1 else 1) * cmpI 0 b.m := by
  obtain ⟨e0, n0⟩ := ha.z hm
  unfold cmpD
  rw [← h, sgn_cmp, hm, lev_zero]
  congr 1
  rw [← cmpI_scale (pw_pos (b.e - min a.e b.e).toNat) 0 b.m, Int.zero_mul]
  rfl
theorem cmp_zero_right {a b : Dy} (h : a.neg = b.neg) (hm : b.m = 0) : cmpD a b = (if a.neg then -1 else 1) * cmpI a.m 0 := by
  unfold cmpD
  rw [← h, sgn_cmp, hm, lev_zero]
  congr 1
  rw [← cmpI_scale (pw_pos (a.e - min a.e b.e).toNat) a.m 0, Int.zero_mul]
  rfl
theorem cmp_ge {a b : Dy} (h : a.neg = b.neg) (he : b.e ≤ a.e) : cmpD a b = (if a.neg then -1 else 1) * cmpI (a.m * 2 ^ (a.e - b.e).toNat) b.m := by
  rw [cmpD_at (L := b.e) he (Int.le_refl _), ← h, sgn_cmp, lev_self]
  rfl
theorem cmp_le {a b : Dy} (h : a.neg = b.neg) (he : a.e ≤ b.e) : cmpD a b = (if a.neg then -1 else 1) * cmpI a.m (b.m * 2 ^ (b.e - a.e).toNat) := by
  rw [cmpD_at (L := a.e) (Int.le_refl _) he, ← h, sgn_cmp, lev_self]
  rfl
/-- The parts of what is plain in memory. -/
theorem plainB_parts {neg : Bool} {xs : List Int} {e : Int} (hw : Wf xs) (h : plainB neg xs e = true) : PD ⟨neg, val xs, e⟩ ∧ xs.length ≤ 256 ∧ wd (val xs) = xs ∧ (0 < xs.length → 0 < val xs ∧ val xs % 2 = 1) := by
  unfold plainB at h
  by_cases h0 : xs.length = 0
  · rw [if_pos h0] at h
    obtain rfl : xs = [] := List.length_eq_zero_iff.1 h0
    simp at h
    obtain ⟨rfl, rfl⟩ := h
    exact ⟨⟨by simp [val], fun _ => ⟨rfl, rfl⟩, by simp, by simp⟩, by simp, by rw [val_nil, wd_zero (Int.le_refl _)], fun h => absurd h (by simp)⟩
  · rw [if_neg h0] at h
    simp only [Bool.and_eq_true, decide_eq_true_eq] at h
    obtain ⟨⟨⟨⟨h1, h2⟩, h3⟩, h4⟩, h5⟩ := h
    have ht : Top xs := by
      unfold Top
      rw [List.getLast?_eq_getElem?, List.getElem?_eq_getElem (by omega)]
      rw [List.getD_eq_getElem?_getD, List.getElem?_eq_getElem (by omega)] at h1
      simpa using h1
    have hp := val_pos hw ht (by intro e; rw [e] at h0; exact h0 rfl)
    have ho : val xs % 2 = 1 := by
      obtain ⟨x, xs', rfl⟩ := List.exists_cons_of_ne_nil (l := xs) (by intro e; rw [e] at h0; exact h0 rfl)
      simp only [List.getD_cons_zero] at h2
      rw [val_cons, B_eq]; omega
    exact ⟨⟨by simp only; omega, fun hh => absurd hh (by simp only; omega), h4, h5⟩, h3, wd_val hw ht, fun _ => ⟨hp, ho⟩⟩
end Go.Proofs.YtbfnjjnnlbchgaaDoor
