/- The words of numbers, on both sides. -/
import Derived.Test.YtbfnjjnnlbchgaaDoorBtC
namespace Go.Proofs.YtbfnjjnnlbchgaaDoor
open Go.RowKit Num
set_option linter.unusedSimpArgs false
set_option linter.unusedVariables false
set_option maxRecDepth 100000

theorem or_sign {f : Int} (h0 : 0 ≤ f) (h1 : f < 9223372036854775808) : bits .or .u64 f 9223372036854775808 = f + 9223372036854775808 := by
  have h := or_add (a := f) (b := 1) (s := 63) (by decide) h0 h1 (by decide) (by decide)
  have e : (1 : Int) * pw 63 = 9223372036854775808 := by decide
  rw [e] at h; exact h
theorem word (neg : Bool) (A : Option Addr) (n c : Nat) (xs : List Int) (e : Int) (w : World) (h : Arr w A n c xs) :
    Calls Tryd.prog 77 #[.agg #[.bool neg, .slice A n c, .int .i64 e]] w (RetWB (wordD neg xs e) w) := by
  have m : wordD neg xs e = if plainB neg xs e then (if xs.length = 0 then some 0 else wordI neg (val xs) e) else none := rfl
  generalize wordD neg xs e = o at *
  have b0 : Below w.heap.size w (w.alloc (.cells #[.bool neg, .slice A n c, .int .i64 e] 24)) := below_alloc (below_self w) _
  have bx0 := box_new w #[.bool neg, .slice A n c, .int .i64 e] 24
  have q := plain neg A n c xs e _ (h.below b0)
  have hl := h.len
  cases hp : plainB neg xs e with
  | false =>
    rw [hp, if_neg (by decide)] at m
    rw [hp] at q
    have HP := Lib.hid q
    subst m
    clear q hp hl
    go_enter Tryd.func77, Tryd.ntmps77
    go_wp2_with fail
    refine HP.out.mono ?_; rintro r w2 ⟨rfl, hb2⟩
    have bw := below_on b0 hb2
    go_wp2_with fail
    go_ret2
    exact ⟨rfl, (by repeat (first | with_reducible assumption | exact below_self _ | refine below_set ?_ _ _ (by first | exact Nat.le_refl _ | omega | (simp; done) | (simp; omega)) _ | refine below_alloc ?_ _ | apply Below.drew | apply below_drewN))⟩
  | true =>
    rw [hp, if_pos rfl] at m
    rw [hp] at q
    have HP := Lib.hid q
    clear q
    by_cases h0 : n = 0
    · rw [if_pos (by omega)] at m
      subst h0; subst m
      clear hl hp
      go_enter Tryd.func77, Tryd.ntmps77
      go_wp2_with fail
      refine HP.out.mono ?_; rintro r w2 ⟨rfl, hb2⟩
      have bw := below_on b0 hb2
      obtain ⟨k0, k1, k2, f0, f1, f2⟩ := (bx0.later hb2).cell3
      go_wp2_with fail
      go_ret2
      exact ⟨rfl, (by repeat (first | with_reducible assumption | exact below_self _ | refine below_set ?_ _ _ (by first | exact Nat.le_refl _ | omega | (simp; done) | (simp; omega)) _ | refine below_alloc ?_ _ | apply Below.drew | apply below_drewN))⟩
    · rw [if_neg (by omega)] at m
      obtain ⟨t1, t2, t3, t4, t5⟩ := plainB_top hp (by omega)
      have ht := top_of (by omega) t1
      have hv := val_pos h.wf ht (by intro hh; rw [hh] at hl; exact h0 hl.symm)
      have hbl := bl_lt (v := val xs) (a := 64 * n) h.val_nonneg (by rw [← B_pow_pw, ← hl]; exact val_lt h.wf)
      have hb1 := bl_pos hv
      have RB := Lib.hid (fun w' (hb : Below w.heap.size w w') => nbits A n c xs w' (h.below hb) (by omega))
      have RS := Lib.hid (fun w' k (hb : Below w.heap.size w w') => shl A n c xs k w' (h.below hb) (by omega))
      have hd0 : ((n : Int) == 0) = false := beq_eq_false_iff_ne.2 (by omega)
      have hm : ∀ k : Nat, bl (val xs) + k ≤ 64 → 0 ≤ val xs * 2 ^ k ∧ wd (shlI (val xs) k) = [val xs * 2 ^ k] ∧ val xs * 2 ^ k < pw (bl (val xs) + k).toNat ∧ pw (bl (val xs) - 1 + k).toNat ≤ val xs * 2 ^ k := by
        intro k hk
        obtain ⟨u0, u1⟩ := mul_bl (k := k) hv
        have u2 := pw_le (a := (bl (val xs) + k).toNat) (b := 64) (by omega)
        rw [← B_pw, B_eq] at u2
        have hp' : (0 : Int) < 2 ^ k := Int.pow_pos (by decide)
        refine ⟨Int.le_of_lt (Int.mul_pos hv hp'), ?_, u1, u0⟩
        rw [shlI_eq (by omega) (by omega), Int.toNat_natCast]
        exact shl_first hv (by omega)
      unfold wordI at m
      generalize val xs = v at *
      generalize bl v = N at *
      have HM := Lib.hid m
      have HS := Lib.hid hm
      have hn1 : n ≤ 256 := by omega
      clear m hm hp hl t1 t5 ht
      by_cases g1 : 53 < N ∨ 1024 < N + e ∨ e < -1074
      · have ho := HM.out
        rw [if_pos g1] at ho
        subst ho
        go_enter Tryd.func77, Tryd.ntmps77
        go_wp2_with fail
        refine HP.out.mono ?_; rintro r w2 ⟨rfl, hb2⟩
        have bw := below_on b0 hb2
        obtain ⟨k0, k1, k2, f0, f1, f2⟩ := (bx0.later hb2).cell3
        go_wp2_with fail
        refine (RB.out _ ((by repeat (first | with_reducible assumption | exact below_self _ | refine below_set ?_ _ _ (by first | exact Nat.le_refl _ | omega | (simp; done) | (simp; omega)) _ | refine below_alloc ?_ _ | apply Below.drew | apply below_drewN)))).mono ?_; rintro r w3 ⟨rfl, rfl⟩
        go_wp2_with fail
        all_goals first | (go_ret2; exact ⟨rfl, (by repeat (first | with_reducible assumption | exact below_self _ | refine below_set ?_ _ _ (by first | exact Nat.le_refl _ | omega | (simp; done) | (simp; omega)) _ | refine below_alloc ?_ _ | apply Below.drew | apply below_drewN))⟩) | (exfalso; omega)
      · have ho := HM.out
        rw [if_neg g1] at ho
        have HO := Lib.hid ho
        have d1 : decide (53 < N) = false := by simp; omega
        have d2 : decide (1024 < N + e) = false := by simp; omega
        have d3 : decide (e < -1074) = false := by simp; omega
        clear ho HM
        by_cases g2 : N + e ≤ -1022
        · have ho := HO.out
          rw [if_pos g2] at ho
          have hmx := Lib.hid (show max (N + e - 53) (-1074) = -1074 by omega)
          have e7 : e - -1074 = e + 1074 := by omega
          obtain ⟨x0, x1, x2, _⟩ := HS.out (e + 1074).toNat (by omega)
          rw [show (((e + 1074).toNat : Nat) : Int) = e + 1074 from by omega] at x1 x2
          generalize hx : v * 2 ^ (e + 1074).toNat = x at *
          have x3 : x < 4503599627370496 := by
            have := pw_le (a := (N + (e + 1074)).toNat) (b := 52) (by omega)
            rw [show pw 52 = 4503599627370496 from by decide] at this
            omega
          have HX := Lib.hid x1
          clear x1 hx
          have HO2 := Lib.hid ho
          clear ho HO HS x2
          go_enter Tryd.func77, Tryd.ntmps77
          go_wp2_with fail
          refine HP.out.mono ?_; rintro r w2 ⟨rfl, hb2⟩
          have bw := below_on b0 hb2
          obtain ⟨k0, k1, k2, f0, f1, f2⟩ := (bx0.later hb2).cell3
          go_wp2_with fail
          refine (RB.out _ ((by repeat (first | with_reducible assumption | exact below_self _ | refine below_set ?_ _ _ (by first | exact Nat.le_refl _ | omega | (simp; done) | (simp; omega)) _ | refine below_alloc ?_ _ | apply Below.drew | apply below_drewN)))).mono ?_; rintro r w3 ⟨rfl, rfl⟩
          cases neg <;> (
            go_wp2_with fail
            rw [hmx.out, e7]
            refine (RS.out _ _ ((by repeat (first | with_reducible assumption | exact below_self _ | refine below_set ?_ _ _ (by first | exact Nat.le_refl _ | omega | (simp; done) | (simp; omega)) _ | refine below_alloc ?_ _ | apply Below.drew | apply below_drewN))) (by omega) (by omega)).mono ?_; rintro r w4 ⟨A4, n4, c4, rfl, hA4, hb4⟩
            have bw4 := below_on bw hb4
            obtain ⟨k0, k1, k2, f0, f1, f2⟩ := ((bx0.later hb2).later hb4).cell3
            rw [HX.out] at hA4
            obtain rfl : n4 = 1 := hA4.len.symm
            obtain ⟨b, o4, rfl, hlt, hc⟩ := hA4.mem (by omega)
            have k3 := hc 0 (by omega)
            simp only [List.getElem?_cons_zero, Option.getD_some, Nat.add_zero] at k3
            clear hc
            have d5 : decide (4503599627370496 ≤ x) = false := by simp; omega
            go_wp2_with fail
            go_ret2
            exact ⟨by rw [HO2.out]; simp [sg, or_sign x0 (by omega)]; try omega, (by repeat (first | with_reducible assumption | exact below_self _ | refine below_set ?_ _ _ (by first | exact Nat.le_refl _ | omega | (simp; done) | (simp; omega)) _ | refine below_alloc ?_ _ | apply Below.drew | apply below_drewN))⟩)
        · have ho := HO.out
          rw [if_neg g2] at ho
          have hmx := Lib.hid (show max (N + e - 53) (-1074) = N + e - 53 by omega)
          have e7 : e - (N + e - 53) = 53 - N := by omega
          have d7 : decide (e < N + e - 53) = false := by simp; omega
          obtain ⟨x0, x1, x2, x4⟩ := HS.out (53 - N).toNat (by omega)
          rw [show (((53 - N).toNat : Nat) : Int) = 53 - N from by omega] at x1 x2 x4
          generalize hx : v * 2 ^ (53 - N).toNat = x at *
          have x3 : x < 9007199254740992 := by
            have := pw_le (a := (N + (53 - N)).toNat) (b := 53) (by omega)
            rw [show pw 53 = 9007199254740992 from by decide] at this
            omega
          have HX := Lib.hid x1
          have x5 : 4503599627370496 ≤ x := by
            rw [show (N - 1 + (53 - N)).toNat = 52 from by omega] at x4
            exact x4
          clear x1 hx x4
          have HO2 := Lib.hid ho
          clear ho HO HS x2
          go_enter Tryd.func77, Tryd.ntmps77
          go_wp2_with fail
          refine HP.out.mono ?_; rintro r w2 ⟨rfl, hb2⟩
          have bw := below_on b0 hb2
          obtain ⟨k0, k1, k2, f0, f1, f2⟩ := (bx0.later hb2).cell3
          go_wp2_with fail
          refine (RB.out _ ((by repeat (first | with_reducible assumption | exact below_self _ | refine below_set ?_ _ _ (by first | exact Nat.le_refl _ | omega | (simp; done) | (simp; omega)) _ | refine below_alloc ?_ _ | apply Below.drew | apply below_drewN)))).mono ?_; rintro r w3 ⟨rfl, rfl⟩
          cases neg <;> (
            go_wp2_with fail
            rw [hmx.out, e7]
            refine (RS.out _ _ ((by repeat (first | with_reducible assumption | exact below_self _ | refine below_set ?_ _ _ (by first | exact Nat.le_refl _ | omega | (simp; done) | (simp; omega)) _ | refine below_alloc ?_ _ | apply Below.drew | apply below_drewN))) (by omega) (by omega)).mono ?_; rintro r w4 ⟨A4, n4, c4, rfl, hA4, hb4⟩
            have bw4 := below_on bw hb4
            obtain ⟨k0, k1, k2, f0, f1, f2⟩ := ((bx0.later hb2).later hb4).cell3
            rw [HX.out] at hA4
            obtain rfl : n4 = 1 := hA4.len.symm
            obtain ⟨b, o4, rfl, hlt, hc⟩ := hA4.mem (by omega)
            have k3 := hc 0 (by omega)
            simp only [List.getElem?_cons_zero, Option.getD_some, Nat.add_zero] at k3
            clear hc
            have d5 : decide (4503599627370496 ≤ x) = true := by simp; omega
            have o7 := Lib.hid (or_sign (f := x + (N + e - 53 + 1074) * 4503599627370496) (by omega) (by omega))
            go_wp2_with fail
            go_ret2
            exact ⟨by rw [HO2.out]; simp [sg, o7.out]; try omega, (by repeat (first | with_reducible assumption | exact below_self _ | refine below_set ?_ _ _ (by first | exact Nat.le_refl _ | omega | (simp; done) | (simp; omega)) _ | refine below_alloc ?_ _ | apply Below.drew | apply below_drewN))⟩)
theorem rword (neg : Bool) (A : Option Addr) (n c : Nat) (xs : List Int) (e : Int) (w : World) (h : Arr w A n c xs) (hn : n ≤ 100000000) :
    Calls Tryd.prog 82 #[.agg #[.bool neg, .slice A n c, .int .i64 e]] w (RetWB (wordD neg xs e) w) := by
  have m : wordD neg xs e = if plainB neg xs e then (if xs.length = 0 then some 0 else wordI neg (val xs) e) else none := rfl
  generalize wordD neg xs e = o at *
  have b0 : Below w.heap.size w (w.alloc (.cells #[.bool neg, .slice A n c, .int .i64 e] 24)) := below_alloc (below_self w) _
  have bx0 := box_new w #[.bool neg, .slice A n c, .int .i64 e] 24
  have q := rplain neg A n c xs e _ (h.below b0) hn
  have hl := h.len
  cases hp : plainB neg xs e with
  | false =>
    rw [hp, if_neg (by decide)] at m
    rw [hp] at q
    have HP := Lib.hid q
    subst m
    clear q hp hl
    go_enter Tryd.func82, Tryd.ntmps82
    go_wp2_with fail
    refine HP.out.mono ?_; rintro r w2 ⟨rfl, hb2⟩
    have bw := below_on b0 hb2
    go_wp2_with fail
    go_ret2
    exact ⟨rfl, (by repeat (first | with_reducible assumption | exact below_self _ | refine below_set ?_ _ _ (by first | exact Nat.le_refl _ | omega | (simp; done) | (simp; omega)) _ | refine below_alloc ?_ _ | apply Below.drew | apply below_drewN))⟩
  | true =>
    rw [hp, if_pos rfl] at m
    rw [hp] at q
    have HP := Lib.hid q
    clear q
    by_cases h0 : n = 0
    · rw [if_pos (by omega)] at m
      subst h0; subst m
      clear hl hp
      go_enter Tryd.func82, Tryd.ntmps82
      go_wp2_with fail
      refine HP.out.mono ?_; rintro r w2 ⟨rfl, hb2⟩
      have bw := below_on b0 hb2
      obtain ⟨k0, k1, k2, f0, f1, f2⟩ := (bx0.later hb2).cell3
      go_wp2_with fail
      go_ret2
      exact ⟨rfl, (by repeat (first | with_reducible assumption | exact below_self _ | refine below_set ?_ _ _ (by first | exact Nat.le_refl _ | omega | (simp; done) | (simp; omega)) _ | refine below_alloc ?_ _ | apply Below.drew | apply below_drewN))⟩
    · rw [if_neg (by omega)] at m
      obtain ⟨t1, t2, t3, t4, t5⟩ := plainB_top hp (by omega)
      have ht := top_of (by omega) t1
      have hv := val_pos h.wf ht (by intro hh; rw [hh] at hl; exact h0 hl.symm)
      have hbl := bl_lt (v := val xs) (a := 64 * n) h.val_nonneg (by rw [← B_pow_pw, ← hl]; exact val_lt h.wf)
      have hb1 := bl_pos hv
      have RB := Lib.hid (fun w' (hb : Below w.heap.size w w') => rbits A n c xs w' (h.below hb) (by omega))
      have RS := Lib.hid (fun w' k (hb : Below w.heap.size w w') => rshl A n c xs k w' (h.below hb) (by omega))
      have hd0 : ((n : Int) == 0) = false := beq_eq_false_iff_ne.2 (by omega)
      have hm : ∀ k : Nat, bl (val xs) + k ≤ 64 → 0 ≤ val xs * 2 ^ k ∧ wd (shlI (val xs) k) = [val xs * 2 ^ k] ∧ val xs * 2 ^ k < pw (bl (val xs) + k).toNat ∧ pw (bl (val xs) - 1 + k).toNat ≤ val xs * 2 ^ k := by
        intro k hk
        obtain ⟨u0, u1⟩ := mul_bl (k := k) hv
        have u2 := pw_le (a := (bl (val xs) + k).toNat) (b := 64) (by omega)
        rw [← B_pw, B_eq] at u2
        have hp' : (0 : Int) < 2 ^ k := Int.pow_pos (by decide)
        refine ⟨Int.le_of_lt (Int.mul_pos hv hp'), ?_, u1, u0⟩
        rw [shlI_eq (by omega) (by omega), Int.toNat_natCast]
        exact shl_first hv (by omega)
      unfold wordI at m
      generalize val xs = v at *
      generalize bl v = N at *
      have HM := Lib.hid m
      have HS := Lib.hid hm
      have hn1 : n ≤ 256 := by omega
      clear m hm hp hl t1 t5 ht
      by_cases g1 : 53 < N ∨ 1024 < N + e ∨ e < -1074
      · have ho := HM.out
        rw [if_pos g1] at ho
        subst ho
        go_enter Tryd.func82, Tryd.ntmps82
        go_wp2_with fail
        refine HP.out.mono ?_; rintro r w2 ⟨rfl, hb2⟩
        have bw := below_on b0 hb2
        obtain ⟨k0, k1, k2, f0, f1, f2⟩ := (bx0.later hb2).cell3
        go_wp2_with fail
        refine (RB.out _ ((by repeat (first | with_reducible assumption | exact below_self _ | refine below_set ?_ _ _ (by first | exact Nat.le_refl _ | omega | (simp; done) | (simp; omega)) _ | refine below_alloc ?_ _ | apply Below.drew | apply below_drewN)))).mono ?_; rintro r w3 ⟨rfl, hb3⟩
        have bw3 := below_on bw hb3
        obtain ⟨k0, k1, k2, f0, f1, f2⟩ := ((bx0.later hb2).later hb3).cell3
        go_wp2_with fail
        all_goals first | (go_ret2; exact ⟨rfl, (by repeat (first | with_reducible assumption | exact below_self _ | refine below_set ?_ _ _ (by first | exact Nat.le_refl _ | omega | (simp; done) | (simp; omega)) _ | refine below_alloc ?_ _ | apply Below.drew | apply below_drewN))⟩) | (exfalso; omega)
      · have ho := HM.out
        rw [if_neg g1] at ho
        have HO := Lib.hid ho
        have d1 : decide (53 < N) = false := by simp; omega
        have d2 : decide (1024 < N + e) = false := by simp; omega
        have d3 : decide (e < -1074) = false := by simp; omega
        clear ho HM
        by_cases g2 : N + e ≤ -1022
        · have ho := HO.out
          rw [if_pos g2] at ho
          have d4 : decide (N + e ≤ -1022) = true := by simp [g2]
          obtain ⟨x0, x1, x2, _⟩ := HS.out (e + 1074).toNat (by omega)
          rw [show (((e + 1074).toNat : Nat) : Int) = e + 1074 from by omega] at x1 x2
          generalize hx : v * 2 ^ (e + 1074).toNat = x at *
          have x3 : x < 4503599627370496 := by
            have := pw_le (a := (N + (e + 1074)).toNat) (b := 52) (by omega)
            rw [show pw 52 = 4503599627370496 from by decide] at this
            omega
          have HX := Lib.hid x1
          clear x1 hx
          have HO2 := Lib.hid ho
          clear ho HO HS x2
          go_enter Tryd.func82, Tryd.ntmps82
          go_wp2_with fail
          refine HP.out.mono ?_; rintro r w2 ⟨rfl, hb2⟩
          have bw := below_on b0 hb2
          obtain ⟨k0, k1, k2, f0, f1, f2⟩ := (bx0.later hb2).cell3
          go_wp2_with fail
          refine (RB.out _ ((by repeat (first | with_reducible assumption | exact below_self _ | refine below_set ?_ _ _ (by first | exact Nat.le_refl _ | omega | (simp; done) | (simp; omega)) _ | refine below_alloc ?_ _ | apply Below.drew | apply below_drewN)))).mono ?_; rintro r w3 ⟨rfl, hb3⟩
          have bw3 := below_on bw hb3
          obtain ⟨k0, k1, k2, f0, f1, f2⟩ := ((bx0.later hb2).later hb3).cell3
          cases neg <;> (
            go_wp2_with fail
            refine (RS.out _ _ ((by repeat (first | with_reducible assumption | exact below_self _ | refine below_set ?_ _ _ (by first | exact Nat.le_refl _ | omega | (simp; done) | (simp; omega)) _ | refine below_alloc ?_ _ | apply Below.drew | apply below_drewN))) (by omega) (by omega)).mono ?_; rintro r w4 ⟨A4, n4, c4, rfl, hA4, hb4⟩
            have bw4 := below_on bw3 hb4
            rw [HX.out] at hA4
            obtain rfl : n4 = 1 := hA4.len.symm
            obtain ⟨b, o4, rfl, hlt, hc⟩ := hA4.mem (by omega)
            have k3 := hc 0 (by omega)
            simp only [List.getElem?_cons_zero, Option.getD_some, Nat.add_zero] at k3
            clear hc
            go_wp2_with fail
            go_ret2
            exact ⟨by rw [HO2.out]; simp [sg], (by repeat (first | with_reducible assumption | exact below_self _ | refine below_set ?_ _ _ (by first | exact Nat.le_refl _ | omega | (simp; done) | (simp; omega)) _ | refine below_alloc ?_ _ | apply Below.drew | apply below_drewN))⟩)
        · have ho := HO.out
          rw [if_neg g2] at ho
          have d4 : decide (N + e ≤ -1022) = false := by simp; omega
          obtain ⟨x0, x1, x2, x4⟩ := HS.out (53 - N).toNat (by omega)
          rw [show (((53 - N).toNat : Nat) : Int) = 53 - N from by omega] at x1 x2 x4
          generalize hx : v * 2 ^ (53 - N).toNat = x at *
          have x3 : x < 9007199254740992 := by
            have := pw_le (a := (N + (53 - N)).toNat) (b := 53) (by omega)
            rw [show pw 53 = 9007199254740992 from by decide] at this
            omega
          have HX := Lib.hid x1
          have x5 : 4503599627370496 ≤ x := by
            rw [show (N - 1 + (53 - N)).toNat = 52 from by omega] at x4
            exact x4
          clear x1 hx x4
          have HO2 := Lib.hid ho
          clear ho HO HS x2
          go_enter Tryd.func82, Tryd.ntmps82
          go_wp2_with fail
          refine HP.out.mono ?_; rintro r w2 ⟨rfl, hb2⟩
          have bw := below_on b0 hb2
          obtain ⟨k0, k1, k2, f0, f1, f2⟩ := (bx0.later hb2).cell3
          go_wp2_with fail
          refine (RB.out _ ((by repeat (first | with_reducible assumption | exact below_self _ | refine below_set ?_ _ _ (by first | exact Nat.le_refl _ | omega | (simp; done) | (simp; omega)) _ | refine below_alloc ?_ _ | apply Below.drew | apply below_drewN)))).mono ?_; rintro r w3 ⟨rfl, hb3⟩
          have bw3 := below_on bw hb3
          obtain ⟨k0, k1, k2, f0, f1, f2⟩ := ((bx0.later hb2).later hb3).cell3
          cases neg <;> (
            go_wp2_with fail
            refine (RS.out _ _ ((by repeat (first | with_reducible assumption | exact below_self _ | refine below_set ?_ _ _ (by first | exact Nat.le_refl _ | omega | (simp; done) | (simp; omega)) _ | refine below_alloc ?_ _ | apply Below.drew | apply below_drewN))) (by omega) (by omega)).mono ?_; rintro r w4 ⟨A4, n4, c4, rfl, hA4, hb4⟩
            have bw4 := below_on bw3 hb4
            rw [HX.out] at hA4
            obtain rfl : n4 = 1 := hA4.len.symm
            obtain ⟨b, o4, rfl, hlt, hc⟩ := hA4.mem (by omega)
            have k3 := hc 0 (by omega)
            simp only [List.getElem?_cons_zero, Option.getD_some, Nat.add_zero] at k3
            clear hc
            go_wp2_with fail
            go_ret2
            exact ⟨by rw [HO2.out]; simp [sg], (by repeat (first | with_reducible assumption | exact below_self _ | refine below_set ?_ _ _ (by first | exact Nat.le_refl _ | omega | (simp; done) | (simp; omega)) _ | refine below_alloc ?_ _ | apply Below.drew | apply below_drewN))⟩)
end Go.Proofs.YtbfnjjnnlbchgaaDoor
