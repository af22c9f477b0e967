/- The laws BitsNumbers and BitsWords: the plain part, and the walks. -/
import Derived.Test.YtbfnjjnnlbchgaaDoorBtLaws
import Derived.Test.YtbfnjjnnlbchgaaDoorBtD
namespace Go.Proofs.YtbfnjjnnlbchgaaDoor
open Go.RowKit Num
set_option maxRecDepth 100000

theorem bl_split {v u : Int} {a : Nat} (h : v = pw a * u) (h0 : 0 < u) : bl v = a + bl u := by
  obtain ⟨t, e, t0, t1⟩ := bl_spec h0
  have hp := pw_pos a
  have e0 : bl v = ((a + t : Nat) : Int) + 1 := by
    refine bl_unique ?_ ?_
    · rw [pw_add, h]; exact Int.mul_le_mul_of_nonneg_left t0 (by omega)
    · rw [Nat.add_assoc, pw_add, h]; exact Int.mul_lt_mul_of_pos_left t1 hp
  rw [e0, e]; omega
theorem odd_53 {v : Int} (h0 : 0 < v) (h1 : v < 9007199254740992) : ∃ (a : Nat) (u : Int), v = pw a * u ∧ u % 2 = 1 ∧ 0 < u ∧ u < 9007199254740992 ∧ bl v = a + bl u ∧ (a : Int) ≤ 53 ∧ 1 ≤ bl u ∧ bl v ≤ 53 := by
  obtain ⟨h, hu, hp⟩ := odd_split h0
  have hb := bl_split h hp
  have h53 := bl_lt (v := v) (a := 53) (by omega) (by rw [show pw 53 = 9007199254740992 from by decide]; exact h1)
  have hpu := bl_pos hp
  refine ⟨tz v, oddI v, h, hu, hp, ?_, hb, by omega, hpu, h53⟩
  have : oddI v ≤ v := by
    have hp2 := pw_pos (tz v)
    have := Int.mul_le_mul_of_nonneg_right (show 1 ≤ pw (tz v) by omega) (show 0 ≤ oddI v by omega)
    rw [← h] at this; omega
  omega
theorem word_odd (neg : Bool) {u e : Int} (h0 : 0 < u) (h1 : u < 9007199254740992) (hu : u % 2 = 1) (e0 : -262144 ≤ e) (e1 : e ≤ 262144) : wordD neg (wd u) e = wordI neg u e := by
  unfold wordD
  have hl : wd u = [u] := wd_small h0 (by omega)
  rw [plainB_words h0, hl, val_one]
  simp [hu, e0, e1]
theorem bl_top {v : Int} (h0 : 4503599627370496 ≤ v) (h1 : v < 9007199254740992) : bl v = 53 := by
  have := bl_unique (v := v) (a := 52) (by rw [show pw 52 = 4503599627370496 from by decide]; exact h0) (by rw [show pw 53 = 9007199254740992 from by decide]; exact h1)
  rw [this]; rfl
theorem mkD_odd (neg : Bool) {v e u : Int} {a : Nat} (h : v = pw a * u) (hu : u % 2 = 1) (h0 : 0 < u) (h1 : u < 18446744073709551616) (e0 : e ≤ 1000) (e1 : -2000 ≤ e) (e2 : (a : Int) ≤ 53) : mkD neg v e = some ⟨neg, u, e + a⟩ :=
  mkD_split neg h hu h0 h1 (by omega) (by omega) (by omega)
theorem number_back {b : Int} (h0 : 0 ≤ b) (h1 : b < 18446744073709551616) {d : Dy} (h : numD b = some d) : ∃ k, wordD d.neg (wd d.m) d.e = some k ∧ (k = b ∨ kindI b = 0 ∧ k = 0) := by
  unfold numD at h
  have hf := frac_range b
  have hx := expo_range b
  have hb : sg (negB b) + expo b * 4503599627370496 + frac b = b := by
    unfold sg negB expo frac
    by_cases hh : 9223372036854775808 ≤ b
    · simp [hh]; omega
    · simp [hh]; omega
  by_cases c1 : expo b = 2047
  · rw [if_pos c1] at h; cases h
  · rw [if_neg c1] at h
    by_cases c2 : expo b = 0
    · rw [if_pos c2] at h
      by_cases c3 : frac b = 0
      · rw [c3] at h
        unfold mkD at h
        rw [if_pos rfl] at h
        obtain rfl := Option.some.inj h
        have hk : kindI b = 0 := by unfold kindI; rw [if_neg c1, if_pos c2, if_pos c3]
        refine ⟨0, ?_, .inr ⟨hk, rfl⟩⟩
        have : wd Dy.zero.m = [] := wd_zero (Int.le_refl _)
        unfold wordD
        rw [this]
        decide
      · obtain ⟨a, u, hs, hu, hp, hlt, hbl, ha, hpu, _⟩ := odd_53 (v := frac b) (by omega) (by omega)
        rw [mkD_odd _ hs hu hp (by omega) (by omega) (by omega) ha] at h
        obtain rfl := Option.some.inj h
        have h52 := bl_lt (v := frac b) (a := 52) (by omega) (by rw [show pw 52 = 4503599627370496 from by decide]; omega)
        refine ⟨b, ?_, .inl rfl⟩
        show wordD (negB b) (wd u) (-1074 + a) = some b
        rw [word_odd _ hp hlt hu (by omega) (by omega)]
        unfold wordI
        rw [if_neg (by omega), if_pos (by omega), show (-1074 + (a : Int) + 1074).toNat = a from by omega, Option.some.injEq]
        rw [c2, hs] at hb
        rw [Int.mul_comm u]
        show sg (negB b) + pw a * u = b
        omega
    · rw [if_neg c2] at h
      obtain ⟨a, u, hs, hu, hp, hlt, hbl, ha, hpu, _⟩ := odd_53 (v := frac b + 4503599627370496) (by omega) (by omega)
      rw [mkD_odd _ hs hu hp (by omega) (by omega) (by omega) ha] at h
      obtain rfl := Option.some.inj h
      have h53 := bl_top (v := frac b + 4503599627370496) (by omega) (by omega)
      refine ⟨b, ?_, .inl rfl⟩
      show wordD (negB b) (wd u) (expo b - 1075 + a) = some b
      rw [word_odd _ hp hlt hu (by omega) (by omega)]
      unfold wordI
      rw [if_neg (by omega), if_neg (by omega), show (53 - bl u).toNat = a from by omega, Option.some.injEq]
      rw [Int.mul_comm u]
      show sg (negB b) + (bl u + (expo b - 1075 + a) + 1022) * 4503599627370496 + pw a * u - 4503599627370496 = b
      rw [← hs]; omega
theorem sameB_self (p : Bool) (xs : List Int) (e : Int) : sameB p p xs xs e e = true := by simp [sameB]
end Go.Proofs.YtbfnjjnnlbchgaaDoor
