/- Package round: Exact. -/
import Derived.OwnWalk
import Derived.Test.YtlmojkknlkfloaaDoorRdB
namespace Go.Proofs.YtlmojkknlkfloaaDoor
open Go.RowKit Num
set_option linter.unusedSimpArgs false
set_option linter.unusedVariables false
set_option maxRecDepth 100000

/-- What a plain number that isn't 0 is. -/
theorem plain_facts {neg : Bool} {w : World} {A : Option Addr} {n c : Nat} {xs : List Int} {e : Int} (h : Arr w A n c xs) (hp : plainB neg xs e = true) (h0 : n ≠ 0) :
    0 < val xs ∧ val xs % 2 = 1 ∧ n ≤ 256 ∧ -262144 ≤ e ∧ e ≤ 262144 ∧ 1 ≤ bl (val xs) ∧ bl (val xs) ≤ 16384 ∧ wd (val xs) = xs := by
  obtain ⟨pd, hl, hw, hv⟩ := plainB_parts h.wf hp
  have hx := h.len
  obtain ⟨v0, v1⟩ := hv (by omega)
  have hb := bl_lt (v := val xs) (a := 64 * n) h.val_nonneg (by rw [← B_pow_pw, ← hx]; exact val_lt h.wf)
  exact ⟨v0, v1, by omega, pd.lo, pd.hi, bl_pos v0, by omega, hw⟩
theorem tinyB_pos {v e : Int} (hv : 0 < v) : tinyB v e = decide (bl v + e ≤ -1022) := by
  unfold tinyB
  have : decide (v ≠ 0) = true := decide_eq_true (by omega)
  rw [this, Bool.true_and]
theorem in_eq {neg : Bool} {mode : Int} (h0 : 0 ≤ mode) (h1 : mode ≤ 4) : inB neg mode = (!nearB mode && !outB neg mode) := by
  have : mode = 0 ∨ mode = 1 ∨ mode = 2 ∨ mode = 3 ∨ mode = 4 := by omega
  rcases this with rfl | rfl | rfl | rfl | rfl <;> cases neg <;> rfl
theorem exact_word {neg : Bool} {v e mode : Int} (hv : 0 < v) (h : overB neg v e mode = false) :
    ∃ D : Dy, ∃ W : Int, mkD false (unitsI neg v e (gridE v e) mode) (gridE v e) = some D ∧ wordD D.neg (wd D.m) D.e = some W ∧ 0 ≤ D.m ∧ 0 ≤ W ∧ W < 9223372036854775808 ∧
      W = unitsI neg v e (gridE v e) mode + (gridE v e + 1074) * 4503599627370496 := by
  obtain ⟨g0, g1, g2, g3⟩ := grid_fit hv h
  have hg : bl v + e - 53 ≤ gridE v e := by unfold gridE; omega
  obtain ⟨r0, r1, -⟩ := units_range (neg := neg) (mode := mode) hv hg
  generalize gridE v e = E at *
  generalize unitsI neg v e E mode = q at *
  by_cases hq : q = 0
  · subst hq
    obtain rfl : E = -1074 := by omega
    refine ⟨Dy.zero, 0, by unfold mkD; rw [if_pos rfl], ?_, by decide, by decide, by decide, by decide⟩
    have : wd Dy.zero.m = [] := wd_zero (Int.le_refl _)
    rw [this]; decide
  · obtain ⟨a, u, hs, hu, hp, ha, hlt, hm, hw⟩ := word_units (by omega : 0 < q) r1 g0 g1 g2 g3
    refine ⟨⟨false, u, E + a⟩, q + (E + 1074) * 4503599627370496, hm false, ?_, by show 0 ≤ u; omega, by omega, by omega, rfl⟩
    have := hw false
    simp only [sg, Bool.false_eq_true, if_false, Int.zero_add] at this
    exact this
theorem rdtiny (neg : Bool) (A : Option Addr) (n c : Nat) (xs : List Int) (e : Int) (w : World) (h : Arr w A n c xs) (hp : plainB neg xs e = true) :
    Calls Tryd.prog 61 #[.agg #[.bool neg, .slice A n c, .int .i64 e]] w fun r w' => r = .returned (.bool (tinyB (val xs) e)) ∧ Below w.heap.size w w' := by
  have bx := box_new w #[.bool neg, .slice A n c, .int .i64 e] 24
  obtain ⟨k0, k1, k2, f0, f1, f2⟩ := bx.cell3
  have b0 := below_alloc (below_self w) (.cells #[.bool neg, .slice A n c, .int .i64 e] 24)
  by_cases h0 : n = 0
  · have hz : val xs = 0 := by rw [List.length_eq_zero_iff.1 (h.len.trans h0)]; rfl
    have ht : tinyB (val xs) e = false := by unfold tinyB; rw [hz]; rfl
    rw [ht]
    subst h0
    clear hz ht
    go_enter Tryd.func61, Tryd.ntmps61
    go_wp2_with fail
    go_ret
    exact ⟨rfl, (by repeat (first | with_reducible assumption | with_reducible exact below_self _ | with_reducible refine below_drewN ?_ _ | with_reducible apply Below.drew | with_reducible refine below_alloc ?_ _))⟩
  · obtain ⟨v0, v1, n1, e0, e1, q0, q1, -⟩ := plain_facts h hp h0
    rw [tinyB_pos v0]
    have T := Lib.hid (rdtop neg A n c xs e _ (h.below b0) (by omega) (by omega) (by omega))
    generalize bl (val xs) + e = t at *
    have d0 : decide ((n : Int) > 0) = true := by simp; omega
    have d1 : decide (0 < n) = true := by simp; omega
    generalize hz : decide (t ≤ -1022) = bz
    go_enter Tryd.func61, Tryd.ntmps61
    go_wp2_with fail
    refine T.out.mono ?_
    rintro r w2 ⟨rfl, hb2⟩
    have b2 := below_on b0 hb2
    go_wp2_with fail
    go_ret
    exact ⟨rfl, b2⟩
theorem units_len {neg : Bool} {v e E mode : Int} (hv : 0 < v) (hE : bl v + e - 53 ≤ E) : 0 ≤ unitsI neg v e E mode ∧ (wd (unitsI neg v e E mode)).length ≤ 1 := by
  obtain ⟨r0, r1, -⟩ := units_range (neg := neg) (mode := mode) hv hE
  exact ⟨r0, wd_length_le r0 (by rw [Int.pow_succ, Int.pow_zero, Int.one_mul, B_eq]; omega)⟩
theorem rdover (neg : Bool) (A : Option Addr) (n c : Nat) (xs : List Int) (e mode : Int) (w : World) (h : Arr w A n c xs) (hp : plainB neg xs e = true) :
    Calls Tryd.prog 54 #[.agg #[.bool neg, .slice A n c, .int .i64 e], .int .i64 mode] w fun r w' => r = .returned (.bool (overB neg (val xs) e mode)) ∧ Below w.heap.size w w' := by
  have bx := box_new w #[.bool neg, .slice A n c, .int .i64 e] 24
  obtain ⟨k0, k1, k2, f0, f1, f2⟩ := bx.cell3
  have b0 := below_alloc (below_self w) (.cells #[.bool neg, .slice A n c, .int .i64 e] 24)
  by_cases h0 : n = 0
  · have hz : val xs = 0 := by rw [List.length_eq_zero_iff.1 (h.len.trans h0)]; rfl
    have ht : overB neg (val xs) e mode = false := by unfold overB; rw [hz]; rfl
    rw [ht]
    subst h0
    clear hz ht
    go_enter Tryd.func54, Tryd.ntmps54
    go_wp2_with fail
    go_ret
    exact ⟨rfl, (by repeat (first | with_reducible assumption | with_reducible exact below_self _ | with_reducible refine below_drewN ?_ _ | with_reducible apply Below.drew | with_reducible refine below_alloc ?_ _))⟩
  · obtain ⟨v0, v1, n1, e0, e1, q0, q1, -⟩ := plain_facts h hp h0
    have T := Lib.hid (fun w' (hb : Below w.heap.size w w') => rdtop neg A n c xs e w' (h.below hb) (by omega) (by omega) (by omega))
    have d0 : ((n : Int) == 0) = false := by simp; omega
    by_cases hl : bl (val xs) + e < 1024
    · rw [over_low hl]
      have d2 : decide (bl (val xs) + e < 1024) = true := decide_eq_true hl
      generalize bl (val xs) + e = t at *
      go_enter Tryd.func54, Tryd.ntmps54
      go_wp2_with fail
      refine (T.out _ b0).mono ?_
      rintro r w2 ⟨rfl, hb2⟩
      (have b0 := below_on b0 hb2; have bx := bx.later hb2; (clear k0 k1 k2 f0 f1 f2; obtain ⟨k0, k1, k2, f0, f1, f2⟩ := bx.cell3); clear hb2)
      go_wp2_with fail
      go_ret
      exact ⟨rfl, b0⟩
    · have d2 : decide (bl (val xs) + e < 1024) = false := decide_eq_false hl
      have RT := fun w' (hb : Below w.heap.size w w') => rdto neg A n c xs e (bl (val xs) + e - 53) mode w' (h.below hb) (by omega) (by omega) (by omega) (by omega) (by omega) (by omega) (by omega)
      obtain ⟨u0, u1⟩ := units_len (neg := neg) (mode := mode) (e := e) v0 (Int.le_refl (bl (val xs) + e - 53))
      have ho : overB neg (val xs) e mode = decide (1024 < bl (unitsI neg (val xs) e (bl (val xs) + e - 53) mode) + (bl (val xs) + e - 53)) := by
        unfold overB
        have : decide (val xs ≠ 0) = true := decide_eq_true (by omega)
        rw [this, Bool.true_and]
      rw [ho]
      clear ho
      have hv := val_wd _ u0
      have ub := bl_lt (v := unitsI neg (val xs) e (bl (val xs) + e - 53) mode) (a := 64) u0 (by
        have := lt_pow_of_wd_length u0 u1
        rw [Int.pow_succ, Int.pow_zero, Int.one_mul, B_pw] at this; exact this)
      have ub0 := bl_nonneg (unitsI neg (val xs) e (bl (val xs) + e - 53) mode)
      have ht0 : bl (val xs) + e ≤ 300000 := by omega
      have ht1 : -300000 ≤ bl (val xs) + e := by omega
      generalize decide (bl (val xs) + e - 53 ≤ e) = ex at *
      generalize unitsI neg (val xs) e (bl (val xs) + e - 53) mode = q at *
      generalize bl (val xs) + e = t at *
      have RT := Lib.hid RT
      have HV := Lib.hid hv
      clear hv
      generalize hz : bl q = z at *
      have HZ := Lib.hid hz
      clear hz
      generalize hz : decide (1024 < z + (t - 53)) = bz
      have hz2 : decide (z + (t - 53) > 1024) = bz := hz
      go_enter Tryd.func54, Tryd.ntmps54
      go_wp2_with fail
      refine (T.out _ b0).mono ?_
      rintro r w2 ⟨rfl, hb2⟩
      (have b0 := below_on b0 hb2; have bx := bx.later hb2; (clear k0 k1 k2 f0 f1 f2; obtain ⟨k0, k1, k2, f0, f1, f2⟩ := bx.cell3); clear hb2)
      go_wp2_with fail
      refine (T.out _ b0).mono ?_
      rintro r w3 ⟨rfl, hb3⟩
      (have b0 := below_on b0 hb3; have bx := bx.later hb3; (clear k0 k1 k2 f0 f1 f2; obtain ⟨k0, k1, k2, f0, f1, f2⟩ := bx.cell3); clear hb3)
      go_wp2_with fail
      refine (RT.out _ b0).mono ?_
      rintro r w4 ⟨A4, n4, c4, rfl, h4, hb4⟩
      have l4 := h4.len
      (have b0 := below_on b0 hb4; have bx := bx.later hb4; (clear k0 k1 k2 f0 f1 f2; obtain ⟨k0, k1, k2, f0, f1, f2⟩ := bx.cell3); clear hb4)
      have NB := nbits A4 n4 c4 _ w4 h4 (by omega)
      rw [HV.out, HZ.out] at NB
      have NB := Lib.hid NB
      go_wp2_with fail
      refine NB.out.mono ?_
      rintro r w5 ⟨rfl, rfl⟩
      go_wp2_with fail
      go_ret
      exact ⟨rfl, b0⟩
end Go.Proofs.YtlmojkknlkfloaaDoor
