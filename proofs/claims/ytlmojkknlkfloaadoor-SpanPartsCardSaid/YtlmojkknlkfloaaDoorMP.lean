/- The document's numbers of words; the words of numbers, on both sides. -/
import Derived.Test.YtlmojkknlkfloaaDoorML
import Derived.Test.YtlmojkknlkfloaaDoorMM
import Derived.Test.YtlmojkknlkfloaaDoorMD
import Derived.Test.YtlmojkknlkfloaaDoorMK
namespace Go.Proofs.YtlmojkknlkfloaaDoor
open Go.RowKit Num
set_option maxRecDepth 100000

def sg (neg : Bool) : Int := if neg then 9223372036854775808 else 0
/-- The word of a number, by the document. -/
def wordI (neg : Bool) (v e : Int) : Option Int :=
  if 53 < bl v ∨ 1024 < bl v + e ∨ e < -1074 then none
  else if bl v + e ≤ -1022 then some (sg neg + v * 2 ^ (e + 1074).toNat)
  else some (sg neg + (bl v + e + 1022) * 4503599627370496 + v * 2 ^ (53 - bl v).toNat - 4503599627370496)
def wordD (neg : Bool) (xs : List Int) (e : Int) : Option Int := if plainB neg xs e then (if xs.length = 0 then some 0 else wordI neg (val xs) e) else none
/-- A word, and whether there is one; boxes may have come. -/
def RetWB (o : Option Int) (w : World) (r : Ending) (w' : World) : Prop := r = .returned (.tuple #[.int .u64 (o.getD 0), .bool o.isSome]) ∧ Below w.heap.size w w'
theorem plainB_top {neg : Bool} {xs : List Int} {e : Int} (h : plainB neg xs e = true) (h0 : xs.length ≠ 0) : xs.getD (xs.length - 1) 0 ≠ 0 ∧ xs.length ≤ 256 ∧ -262144 ≤ e ∧ e ≤ 262144 ∧ xs.getD 0 0 % 2 = 1 := by
  unfold plainB at h
  rw [if_neg h0] at h
  simp only [Bool.and_eq_true, decide_eq_true_eq, ne_eq] at h
  exact ⟨h.1.1.1.1, h.1.1.2, h.1.2, h.2, h.1.1.1.2⟩
theorem top_of {xs : List Int} (h0 : xs.length ≠ 0) (h : xs.getD (xs.length - 1) 0 ≠ 0) : Top xs := by
  unfold Top
  rw [List.getLast?_eq_getElem?, List.getElem?_eq_getElem (by omega)]
  rw [List.getD_eq_getElem?_getD, List.getElem?_eq_getElem (by omega)] at h
  simpa using h
/-- The first word of a shift that stays below 2^64. -/
theorem shl_first {v : Int} {k : Nat} (hv : 0 < v) (hlt : v * 2 ^ k < 18446744073709551616) : wd (v * 2 ^ k) = [v * 2 ^ k] := by
  have hp : (0 : Int) < 2 ^ k := Int.pow_pos (by decide)
  exact wd_small (Int.mul_pos hv hp) hlt
theorem mul_bl {v : Int} {k : Nat} (hv : 0 < v) : pw (bl v - 1 + k).toNat ≤ v * 2 ^ k ∧ v * 2 ^ k < pw (bl v + k).toNat := by
  obtain ⟨a, e, a0, a1⟩ := bl_spec hv
  have hp := pw_pos k
  rw [e, show ((a : Int) + 1 - 1 + k).toNat = a + k from by omega, show ((a : Int) + 1 + k).toNat = (a + 1) + k from by omega, pw_add, pw_add]
  exact ⟨Int.mul_le_mul_of_nonneg_right a0 (by omega), Int.mul_lt_mul_of_pos_right a1 hp⟩
end Go.Proofs.YtlmojkknlkfloaaDoor
/- The words of numbers, on both sides. -/
namespace Go.Proofs.YtlmojkknlkfloaaDoor
open Go.RowKit Num
set_option linter.unusedSimpArgs false
set_option linter.unusedVariables false
set_option maxRecDepth 100000

theorem or_sign {f : Int} (h0 : 0 ≤ f) (h1 : f < 9223372036854775808) : bits .or .u64 f 9223372036854775808 = f + 9223372036854775808 := by
  have h := or_add (a := f) (b := 1) (s := 63) (by decide) h0 h1 (by decide) (by decide)
  have e : (1 : Int) * pw 63 = 9223372036854775808 := by decide
  rw [e] at h; exact h
theorem word (neg : Bool) (A : Option Addr) (n c : Nat) (xs : List Int) (e : Int) (w : World) (h : Arr w A n c xs) :
    Calls Tryd.prog 60 #[.agg #[.bool neg, .slice A n c, .int .i64 e]] w (RetWB (wordD neg xs e) w) := by
  have m : wordD neg xs e = if plainB neg xs e then (if xs.length = 0 then some 0 else wordI neg (val xs) e) else none := rfl
  generalize wordD neg xs e = o at *
  have b0 : Below w.heap.size w (w.alloc (.cells #[.bool neg, .slice A n c, .int .i64 e] 24)) := below_alloc (below_self w) _
  have bx0 := box_new w #[.bool neg, .slice A n c, .int .i64 e] 24
  have q := plain neg A n c xs e _ (h.below b0)
  have hl := h.len
  cases hp : plainB neg xs e with
  | false =>
    rw [hp, if_neg (by decide)] at m
    rw [hp] at q
    have HP := Lib.hid q
    subst m
    clear q hp hl
    go_enter Tryd.func60, Tryd.ntmps60
    go_wp2_with fail
    refine HP.out.mono ?_; rintro r w2 ⟨rfl, hb2⟩
    have bw := below_on b0 hb2
    go_wp2_with fail
    go_ret2
    exact ⟨rfl, (by repeat (first | with_reducible assumption | exact below_self _ | refine below_set ?_ _ _ (by first | exact Nat.le_refl _ | omega | (simp; done) | (simp; omega)) _ | refine below_alloc ?_ _ | apply Below.drew | apply below_drewN))⟩
  | true =>
    rw [hp, if_pos rfl] at m
    rw [hp] at q
    have HP := Lib.hid q
    clear q
    by_cases h0 : n = 0
    · rw [if_pos (by omega)] at m
      subst h0; subst m
      clear hl hp
      go_enter Tryd.func60, Tryd.ntmps60
      go_wp2_with fail
      refine HP.out.mono ?_; rintro r w2 ⟨rfl, hb2⟩
      have bw := below_on b0 hb2
      obtain ⟨k0, k1, k2, f0, f1, f2⟩ := (bx0.later hb2).cell3
      go_wp2_with fail
      go_ret2
      exact ⟨rfl, (by repeat (first | with_reducible assumption | exact below_self _ | refine below_set ?_ _ _ (by first | exact Nat.le_refl _ | omega | (simp; done) | (simp; omega)) _ | refine below_alloc ?_ _ | apply Below.drew | apply below_drewN))⟩
    · rw [if_neg (by omega)] at m
      obtain ⟨t1, t2, t3, t4, t5⟩ := plainB_top hp (by omega)
      have ht := top_of (by omega) t1
      have hv := val_pos h.wf ht (by intro hh; rw [hh] at hl; exact h0 hl.symm)
      have hbl := bl_lt (v := val xs) (a := 64 * n) h.val_nonneg (by rw [← B_pow_pw, ← hl]; exact val_lt h.wf)
      have hb1 := bl_pos hv
      have RB := Lib.hid (fun w' (hb : Below w.heap.size w w') => nbits A n c xs w' (h.below hb) (by omega))
      have RS := Lib.hid (fun w' k (hb : Below w.heap.size w w') => shl A n c xs k w' (h.below hb) (by omega))
      have hd0 : ((n : Int) == 0) = false := beq_eq_false_iff_ne.2 (by omega)
      have hm : ∀ k : Nat, bl (val xs) + k ≤ 64 → 0 ≤ val xs * 2 ^ k ∧ wd (shlI (val xs) k) = [val xs * 2 ^ k] ∧ val xs * 2 ^ k < pw (bl (val xs) + k).toNat ∧ pw (bl (val xs) - 1 + k).toNat ≤ val xs * 2 ^ k := by
        intro k hk
        obtain ⟨u0, u1⟩ := mul_bl (k := k) hv
        have u2 := pw_le (a := (bl (val xs) + k).toNat) (b := 64) (by omega)
        rw [← B_pw, B_eq] at u2
        have hp' : (0 : Int) < 2 ^ k := Int.pow_pos (by decide)
        refine ⟨Int.le_of_lt (Int.mul_pos hv hp'), ?_, u1, u0⟩
        rw [shlI_eq (by omega) (by omega), Int.toNat_natCast]
        exact shl_first hv (by omega)
      unfold wordI at m
      generalize val xs = v at *
      generalize bl v = N at *
      have HM := Lib.hid m
      have HS := Lib.hid hm
      have hn1 : n ≤ 256 := by omega
      clear m hm hp hl t1 t5 ht
      by_cases g1 : 53 < N ∨ 1024 < N + e ∨ e < -1074
      · have ho := HM.out
        rw [if_pos g1] at ho
        subst ho
        go_enter Tryd.func60, Tryd.ntmps60
        go_wp2_with fail
        refine HP.out.mono ?_; rintro r w2 ⟨rfl, hb2⟩
        have bw := below_on b0 hb2
        obtain ⟨k0, k1, k2, f0, f1, f2⟩ := (bx0.later hb2).cell3
        go_wp2_with fail
        refine (RB.out _ ((by repeat (first | with_reducible assumption | exact below_self _ | refine below_set ?_ _ _ (by first | exact Nat.le_refl _ | omega | (simp; done) | (simp; omega)) _ | refine below_alloc ?_ _ | apply Below.drew | apply below_drewN)))).mono ?_; rintro r w3 ⟨rfl, rfl⟩
        go_wp2_with fail
        all_goals first | (go_ret2; exact ⟨rfl, (by repeat (first | with_reducible assumption | exact below_self _ | refine below_set ?_ _ _ (by first | exact Nat.le_refl _ | omega | (simp; done) | (simp; omega)) _ | refine below_alloc ?_ _ | apply Below.drew | apply below_drewN))⟩) | (exfalso; omega)
      · have ho := HM.out
        rw [if_neg g1] at ho
        have HO := Lib.hid ho
        have d1 : decide (53 < N) = false := by simp; omega
        have d2 : decide (1024 < N + e) = false := by simp; omega
        have d3 : decide (e < -1074) = false := by simp; omega
        clear ho HM
        by_cases g2 : N + e ≤ -1022
        · have ho := HO.out
          rw [if_pos g2] at ho
          have hmx := Lib.hid (show max (N + e - 53) (-1074) = -1074 by omega)
          have e7 : e - -1074 = e + 1074 := by omega
          obtain ⟨x0, x1, x2, _⟩ := HS.out (e + 1074).toNat (by omega)
          rw [show (((e + 1074).toNat : Nat) : Int) = e + 1074 from by omega] at x1 x2
          generalize hx : v * 2 ^ (e + 1074).toNat = x at *
          have x3 : x < 4503599627370496 := by
            have := pw_le (a := (N + (e + 1074)).toNat) (b := 52) (by omega)
            rw [show pw 52 = 4503599627370496 from by decide] at this
            omega
          have HX := Lib.hid x1
          clear x1 hx
          have HO2 := Lib.hid ho
          clear ho HO HS x2
          go_enter Tryd.func60, Tryd.ntmps60
          go_wp2_with fail
          refine HP.out.mono ?_; rintro r w2 ⟨rfl, hb2⟩
          have bw := below_on b0 hb2
          obtain ⟨k0, k1, k2, f0, f1, f2⟩ := (bx0.later hb2).cell3
          go_wp2_with fail
          refine (RB.out _ ((by repeat (first | with_reducible assumption | exact below_self _ | refine below_set ?_ _ _ (by first | exact Nat.le_refl _ | omega | (simp; done) | (simp; omega)) _ | refine below_alloc ?_ _ | apply Below.drew | apply below_drewN)))).mono ?_; rintro r w3 ⟨rfl, rfl⟩
          cases neg <;> (
            go_wp2_with fail
            rw [hmx.out, e7]
            refine (RS.out _ _ ((by repeat (first | with_reducible assumption | exact below_self _ | refine below_set ?_ _ _ (by first | exact Nat.le_refl _ | omega | (simp; done) | (simp; omega)) _ | refine below_alloc ?_ _ | apply Below.drew | apply below_drewN))) (by omega) (by omega)).mono ?_; rintro r w4 ⟨A4, n4, c4, rfl, hA4, hb4⟩
            have bw4 := below_on bw hb4
            obtain ⟨k0, k1, k2, f0, f1, f2⟩ := ((bx0.later hb2).later hb4).cell3
            rw [HX.out] at hA4
            obtain rfl : n4 = 1 := hA4.len.symm
            obtain ⟨b, o4, rfl, hlt, hc⟩ := hA4.mem (by omega)
            have k3 := hc 0 (by omega)
            simp only [List.getElem?_cons_zero, Option.getD_some, Nat.add_zero] at k3
            clear hc
            have d5 : decide (4503599627370496 ≤ x) = false := by simp; omega
            go_wp2_with fail
            go_ret2
            exact ⟨by rw [HO2.out]; simp [sg, or_sign x0 (by omega)]; try omega, (by repeat (first | with_reducible assumption | exact below_self _ | refine below_set ?_ _ _ (by first | exact Nat.le_refl _ | omega | (simp; done) | (simp; omega)) _ | refine below_alloc ?_ _ | apply Below.drew | apply below_drewN))⟩)
        · have ho := HO.out
          rw [if_neg g2] at ho
          have hmx := Lib.hid (show max (N + e - 53) (-1074) = N + e - 53 by omega)
          have e7 : e - (N + e - 53) = 53 - N := by omega
          have d7 : decide (e < N + e - 53) = false := by simp; omega
          obtain ⟨x0, x1, x2, x4⟩ := HS.out (53 - N).toNat (by omega)
          rw [show (((53 - N).toNat : Nat) : Int) = 53 - N from by omega] at x1 x2 x4
          generalize hx : v * 2 ^ (53 - N).toNat = x at *
          have x3 : x < 9007199254740992 := by
            have := pw_le (a := (N + (53 - N)).toNat) (b := 53) (by omega)
            rw [show pw 53 = 9007199254740992 from by decide] at this
            omega
          have HX := Lib.hid x1
          have x5 : 4503599627370496 ≤ x := by
            rw [show (N - 1 + (53 - N)).toNat = 52 from by omega] at x4
            exact x4
          clear x1 hx x4
          have HO2 := Lib.hid ho
          clear ho HO HS x2
          go_enter Tryd.func60, Tryd.ntmps60
          go_wp2_with fail
          refine HP.out.mono ?_; rintro r w2 ⟨rfl, hb2⟩
          have bw := below_on b0 hb2
          obtain ⟨k0, k1, k2, f0, f1, f2⟩ := (bx0.later hb2).cell3
          go_wp2_with fail
          refine (RB.out _ ((by repeat (first | with_reducible assumption | exact below_self _ | refine below_set ?_ _ _ (by first | exact Nat.le_refl _ | omega | (simp; done) | (simp; omega)) _ | refine below_alloc ?_ _ | apply Below.drew | apply below_drewN)))).mono ?_; rintro r w3 ⟨rfl, rfl⟩
          cases neg <;> (
            go_wp2_with fail
            rw [hmx.out, e7]
            refine (RS.out _ _ ((by repeat (first | with_reducible assumption | exact below_self _ | refine below_set ?_ _ _ (by first | exact Nat.le_refl _ | omega | (simp; done) | (simp; omega)) _ | refine below_alloc ?_ _ | apply Below.drew | apply below_drewN))) (by omega) (by omega)).mono ?_; rintro r w4 ⟨A4, n4, c4, rfl, hA4, hb4⟩
            have bw4 := below_on bw hb4
            obtain ⟨k0, k1, k2, f0, f1, f2⟩ := ((bx0.later hb2).later hb4).cell3
            rw [HX.out] at hA4
            obtain rfl : n4 = 1 := hA4.len.symm
            obtain ⟨b, o4, rfl, hlt, hc⟩ := hA4.mem (by omega)
            have k3 := hc 0 (by omega)
            simp only [List.getElem?_cons_zero, Option.getD_some, Nat.add_zero] at k3
            clear hc
            have d5 : decide (4503599627370496 ≤ x) = true := by simp; omega
            have o7 := Lib.hid (or_sign (f := x + (N + e - 53 + 1074) * 4503599627370496) (by omega) (by omega))
            go_wp2_with fail
            go_ret2
            exact ⟨by rw [HO2.out]; simp [sg, o7.out]; try omega, (by repeat (first | with_reducible assumption | exact below_self _ | refine below_set ?_ _ _ (by first | exact Nat.le_refl _ | omega | (simp; done) | (simp; omega)) _ | refine below_alloc ?_ _ | apply Below.drew | apply below_drewN))⟩)
theorem rword (neg : Bool) (A : Option Addr) (n c : Nat) (xs : List Int) (e : Int) (w : World) (h : Arr w A n c xs) (hn : n ≤ 100000000) :
    Calls Tryd.prog 67 #[.agg #[.bool neg, .slice A n c, .int .i64 e]] w (RetWB (wordD neg xs e) w) := by
  have m : wordD neg xs e = if plainB neg xs e then (if xs.length = 0 then some 0 else wordI neg (val xs) e) else none := rfl
  generalize wordD neg xs e = o at *
  have b0 : Below w.heap.size w (w.alloc (.cells #[.bool neg, .slice A n c, .int .i64 e] 24)) := below_alloc (below_self w) _
  have bx0 := box_new w #[.bool neg, .slice A n c, .int .i64 e] 24
  have q := rplain neg A n c xs e _ (h.below b0) hn
  have hl := h.len
  cases hp : plainB neg xs e with
  | false =>
    rw [hp, if_neg (by decide)] at m
    rw [hp] at q
    have HP := Lib.hid q
    subst m
    clear q hp hl
    go_enter Tryd.func67, Tryd.ntmps67
    go_wp2_with fail
    refine HP.out.mono ?_; rintro r w2 ⟨rfl, hb2⟩
    have bw := below_on b0 hb2
    go_wp2_with fail
    go_ret2
    exact ⟨rfl, (by repeat (first | with_reducible assumption | exact below_self _ | refine below_set ?_ _ _ (by first | exact Nat.le_refl _ | omega | (simp; done) | (simp; omega)) _ | refine below_alloc ?_ _ | apply Below.drew | apply below_drewN))⟩
  | true =>
    rw [hp, if_pos rfl] at m
    rw [hp] at q
    have HP := Lib.hid q
    clear q
    by_cases h0 : n = 0
    · rw [if_pos (by omega)] at m
      subst h0; subst m
      clear hl hp
      go_enter Tryd.func67, Tryd.ntmps67
      go_wp2_with fail
      refine HP.out.mono ?_; rintro r w2 ⟨rfl, hb2⟩
      have bw := below_on b0 hb2
      obtain ⟨k0, k1, k2, f0, f1, f2⟩ := (bx0.later hb2).cell3
      go_wp2_with fail
      go_ret2
      exact ⟨rfl, (by repeat (first | with_reducible assumption | exact below_self _ | refine below_set ?_ _ _ (by first | exact Nat.le_refl _ | omega | (simp; done) | (simp; omega)) _ | refine below_alloc ?_ _ | apply Below.drew | apply below_drewN))⟩
    · rw [if_neg (by omega)] at m
      obtain ⟨t1, t2, t3, t4, t5⟩ := plainB_top hp (by omega)
      have ht := top_of (by omega) t1
      have hv := val_pos h.wf ht (by intro hh; rw [hh] at hl; exact h0 hl.symm)
      have hbl := bl_lt (v := val xs) (a := 64 * n) h.val_nonneg (by rw [← B_pow_pw, ← hl]; exact val_lt h.wf)
      have hb1 := bl_pos hv
      have RB := Lib.hid (fun w' (hb : Below w.heap.size w w') => rbits A n c xs w' (h.below hb) (by omega))
      have RS := Lib.hid (fun w' k (hb : Below w.heap.size w w') => rshl A n c xs k w' (h.below hb) (by omega))
      have hd0 : ((n : Int) == 0) = false := beq_eq_false_iff_ne.2 (by omega)
      have hm : ∀ k : Nat, bl (val xs) + k ≤ 64 → 0 ≤ val xs * 2 ^ k ∧ wd (shlI (val xs) k) = [val xs * 2 ^ k] ∧ val xs * 2 ^ k < pw (bl (val xs) + k).toNat ∧ pw (bl (val xs) - 1 + k).toNat ≤ val xs * 2 ^ k := by
        intro k hk
        obtain ⟨u0, u1⟩ := mul_bl (k := k) hv
        have u2 := pw_le (a := (bl (val xs) + k).toNat) (b := 64) (by omega)
        rw [← B_pw, B_eq] at u2
        have hp' : (0 : Int) < 2 ^ k := Int.pow_pos (by decide)
        refine ⟨Int.le_of_lt (Int.mul_pos hv hp'), ?_, u1, u0⟩
        rw [shlI_eq (by omega) (by omega), Int.toNat_natCast]
        exact shl_first hv (by omega)
      unfold wordI at m
      generalize val xs = v at *
      generalize bl v = N at *
      have HM := Lib.hid m
      have HS := Lib.hid hm
      have hn1 : n ≤ 256 := by omega
      clear m hm hp hl t1 t5 ht
      by_cases g1 : 53 < N ∨ 1024 < N + e ∨ e < -1074
      · have ho := HM.out
        rw [if_pos g1] at ho
        subst ho
        go_enter Tryd.func67, Tryd.ntmps67
        go_wp2_with fail
        refine HP.out.mono ?_; rintro r w2 ⟨rfl, hb2⟩
        have bw := below_on b0 hb2
        obtain ⟨k0, k1, k2, f0, f1, f2⟩ := (bx0.later hb2).cell3
        go_wp2_with fail
        refine (RB.out _ ((by repeat (first | with_reducible assumption | exact below_self _ | refine below_set ?_ _ _ (by first | exact Nat.le_refl _ | omega | (simp; done) | (simp; omega)) _ | refine below_alloc ?_ _ | apply Below.drew | apply below_drewN)))).mono ?_; rintro r w3 ⟨rfl, hb3⟩
        have bw3 := below_on bw hb3
        obtain ⟨k0, k1, k2, f0, f1, f2⟩ := ((bx0.later hb2).later hb3).cell3
        go_wp2_with fail
        all_goals first | (go_ret2; exact ⟨rfl, (by repeat (first | with_reducible assumption | exact below_self _ | refine below_set ?_ _ _ (by first | exact Nat.le_refl _ | omega | (simp; done) | (simp; omega)) _ | refine below_alloc ?_ _ | apply Below.drew | apply below_drewN))⟩) | (exfalso; omega)
      · have ho := HM.out
        rw [if_neg g1] at ho
        have HO := Lib.hid ho
        have d1 : decide (53 < N) = false := by simp; omega
        have d2 : decide (1024 < N + e) = false := by simp; omega
        have d3 : decide (e < -1074) = false := by simp; omega
        clear ho HM
        by_cases g2 : N + e ≤ -1022
        · have ho := HO.out
          rw [if_pos g2] at ho
          have d4 : decide (N + e ≤ -1022) = true := by simp [g2]
          obtain ⟨x0, x1, x2, _⟩ := HS.out (e + 1074).toNat (by omega)
          rw [show (((e + 1074).toNat : Nat) : Int) = e + 1074 from by omega] at x1 x2
          generalize hx : v * 2 ^ (e + 1074).toNat = x at *
          have x3 : x < 4503599627370496 := by
            have := pw_le (a := (N + (e + 1074)).toNat) (b := 52) (by omega)
            rw [show pw 52 = 4503599627370496 from by decide] at this
            omega
          have HX := Lib.hid x1
          clear x1 hx
          have HO2 := Lib.hid ho
          clear ho HO HS x2
          go_enter Tryd.func67, Tryd.ntmps67
          go_wp2_with fail
          refine HP.out.mono ?_; rintro r w2 ⟨rfl, hb2⟩
          have bw := below_on b0 hb2
          obtain ⟨k0, k1, k2, f0, f1, f2⟩ := (bx0.later hb2).cell3
          go_wp2_with fail
          refine (RB.out _ ((by repeat (first | with_reducible assumption | exact below_self _ | refine below_set ?_ _ _ (by first | exact Nat.le_refl _ | omega | (simp; done) | (simp; omega)) _ | refine below_alloc ?_ _ | apply Below.drew | apply below_drewN)))).mono ?_; rintro r w3 ⟨rfl, hb3⟩
          have bw3 := below_on bw hb3
          obtain ⟨k0, k1, k2, f0, f1, f2⟩ := ((bx0.later hb2).later hb3).cell3
          cases neg <;> (
            go_wp2_with fail
            refine (RS.out _ _ ((by repeat (first | with_reducible assumption | exact below_self _ | refine below_set ?_ _ _ (by first | exact Nat.le_refl _ | omega | (simp; done) | (simp; omega)) _ | refine below_alloc ?_ _ | apply Below.drew | apply below_drewN))) (by omega) (by omega)).mono ?_; rintro r w4 ⟨A4, n4, c4, rfl, hA4, hb4⟩
            have bw4 := below_on bw3 hb4
            rw [HX.out] at hA4
            obtain rfl : n4 = 1 := hA4.len.symm
            obtain ⟨b, o4, rfl, hlt, hc⟩ := hA4.mem (by omega)
            have k3 := hc 0 (by omega)
            simp only [List.getElem?_cons_zero, Option.getD_some, Nat.add_zero] at k3
            clear hc
            go_wp2_with fail
            go_ret2
            exact ⟨by rw [HO2.out]; simp [sg], (by repeat (first | with_reducible assumption | exact below_self _ | refine below_set ?_ _ _ (by first | exact Nat.le_refl _ | omega | (simp; done) | (simp; omega)) _ | refine below_alloc ?_ _ | apply Below.drew | apply below_drewN))⟩)
        · have ho := HO.out
          rw [if_neg g2] at ho
          have d4 : decide (N + e ≤ -1022) = false := by simp; omega
          obtain ⟨x0, x1, x2, x4⟩ := HS.out (53 - N).toNat (by omega)
          rw [show (((53 - N).toNat : Nat) : Int) = 53 - N from by omega] at x1 x2 x4
          generalize hx : v * 2 ^ (53 - N).toNat = x at *
          have x3 : x < 9007199254740992 := by
            have := pw_le (a := (N + (53 - N)).toNat) (b := 53) (by omega)
            rw [show pw 53 = 9007199254740992 from by decide] at this
            omega
          have HX := Lib.hid x1
          have x5 : 4503599627370496 ≤ x := by
            rw [show (N - 1 + (53 - N)).toNat = 52 from by omega] at x4
            exact x4
          clear x1 hx x4
          have HO2 := Lib.hid ho
          clear ho HO HS x2
          go_enter Tryd.func67, Tryd.ntmps67
          go_wp2_with fail
          refine HP.out.mono ?_; rintro r w2 ⟨rfl, hb2⟩
          have bw := below_on b0 hb2
          obtain ⟨k0, k1, k2, f0, f1, f2⟩ := (bx0.later hb2).cell3
          go_wp2_with fail
          refine (RB.out _ ((by repeat (first | with_reducible assumption | exact below_self _ | refine below_set ?_ _ _ (by first | exact Nat.le_refl _ | omega | (simp; done) | (simp; omega)) _ | refine below_alloc ?_ _ | apply Below.drew | apply below_drewN)))).mono ?_; rintro r w3 ⟨rfl, hb3⟩
          have bw3 := below_on bw hb3
          obtain ⟨k0, k1, k2, f0, f1, f2⟩ := ((bx0.later hb2).later hb3).cell3
          cases neg <;> (
            go_wp2_with fail
            refine (RS.out _ _ ((by repeat (first | with_reducible assumption | exact below_self _ | refine below_set ?_ _ _ (by first | exact Nat.le_refl _ | omega | (simp; done) | (simp; omega)) _ | refine below_alloc ?_ _ | apply Below.drew | apply below_drewN))) (by omega) (by omega)).mono ?_; rintro r w4 ⟨A4, n4, c4, rfl, hA4, hb4⟩
            have bw4 := below_on bw3 hb4
            rw [HX.out] at hA4
            obtain rfl : n4 = 1 := hA4.len.symm
            obtain ⟨b, o4, rfl, hlt, hc⟩ := hA4.mem (by omega)
            have k3 := hc 0 (by omega)
            simp only [List.getElem?_cons_zero, Option.getD_some, Nat.add_zero] at k3
            clear hc
            go_wp2_with fail
            go_ret2
            exact ⟨by rw [HO2.out]; simp [sg], (by repeat (first | with_reducible assumption | exact below_self _ | refine below_set ?_ _ _ (by first | exact Nat.le_refl _ | omega | (simp; done) | (simp; omega)) _ | refine below_alloc ?_ _ | apply Below.drew | apply below_drewN))⟩)
end Go.Proofs.YtlmojkknlkfloaaDoor
/- What the laws of words want: the plain part, and the walks of the laws. -/
namespace Go.Proofs.YtlmojkknlkfloaaDoor
open Go.RowKit Num
set_option maxRecDepth 100000

/-- A word without its sign. -/
def size63 (b : Int) : Int := b % 9223372036854775808
theorem kind_size (b : Int) (_h0 : 0 ≤ b) (_h1 : b < 18446744073709551616) :
    (kindI b = 0 ↔ size63 b = 0) ∧ (kindI b = 3 ↔ size63 b = 9218868437227405312) ∧ (kindI b = 4 ↔ 9218868437227405312 < size63 b) ∧ (kindI b = 1 ↔ 0 < size63 b ∧ size63 b < 4503599627370496) := by
  unfold kindI expo frac size63
  refine ⟨?_, ?_, ?_, ?_⟩ <;> (repeat' split) <;> omega
theorem next_back {b n : Int} {up : Bool} (h0 : 0 ≤ b) (h1 : b < 18446744073709551616) (h : nextW b up = some n) :
    (0 ≤ n ∧ n < 18446744073709551616) ∧ ∃ k, nextW n (!up) = some k ∧ (k = b ∨ kindI b = 0 ∧ kindI k = 0) := by
  obtain ⟨a1, a2, a3, _⟩ := kind_size b h0 h1
  have hn : 0 ≤ n ∧ n < 18446744073709551616 := by
    unfold nextW negB size63 at *
    cases up <;> simp only [decide_eq_true_eq, ne_eq, decide_eq_false_iff_not] at h <;> (repeat' split at h) <;> simp at h <;> omega
  refine ⟨hn, ?_⟩
  obtain ⟨b1, b2, b3, _⟩ := kind_size n hn.1 hn.2
  have z1 : kindI 0 = 0 := by decide
  have z2 : kindI 9223372036854775808 = 0 := by decide
  by_cases hk : kindI b = 0
  · have e : n = if up then 1 else 9223372036854775809 := by
      unfold nextW at h
      rw [if_neg (by omega), if_pos hk] at h
      exact (Option.some.inj h).symm
    have hs := a1.1 hk
    cases up
    · subst e
      refine ⟨9223372036854775808, by decide, .inr ⟨hk, z2⟩⟩
    · subst e
      refine ⟨0, by decide, .inr ⟨hk, z1⟩⟩
  · have h4 : ¬ (kindI b = 4 ∨ (kindI b = 3 ∧ negB b ≠ up)) := by
      intro hh; unfold nextW at h; rw [if_pos hh] at h; cases h
    unfold nextW at h
    rw [if_neg h4, if_neg hk] at h
    unfold nextW
    unfold negB size63 at *
    refine ⟨b, ?_, .inl rfl⟩
    cases up <;> simp only [Bool.not_true, Bool.not_false, decide_eq_true_eq, ne_eq, decide_eq_false_iff_not] at * <;> (repeat' split at h) <;> simp at h <;> (repeat' split) <;> first | omega | (exfalso; omega) | (simp only [Option.some.injEq]; omega) | contradiction | exact absurd trivial (by assumption)
theorem mkD_split (neg : Bool) {v e u : Int} {a : Nat} (h : v = pw a * u) (hu : u % 2 = 1) (h0 : 0 < u) (h1 : u < 18446744073709551616) (e0 : e ≤ 262144) (e1 : -262144 ≤ e + a) (e2 : e + a ≤ 262144) : mkD neg v e = some ⟨neg, u, e + a⟩ := by
  obtain ⟨t1, t2⟩ := odd_of_split h hu (by omega)
  have hp := pw_pos a
  have hv : v ≠ 0 := by
    have := Int.mul_pos hp h0
    omega
  unfold mkD
  rw [if_neg hv, t1, t2, if_neg (by omega), wd_small h0 h1, if_pos ⟨by simp, e2⟩]
theorem num_half : numD 4609434218613702656 = some ⟨false, 3, -1⟩ := by
  have e : numD 4609434218613702656 = mkD false 6755399441055744 (-52) := by
    unfold numD
    rw [if_neg (by decide), if_neg (by decide)]
    rfl
  rw [e]
  exact mkD_split false (a := 51) (u := 3) (by decide) (by decide) (by decide) (by decide) (by decide) (by decide) (by decide)
end Go.Proofs.YtlmojkknlkfloaaDoor
/- The laws BitsNumbers and BitsWords: the plain part, and the walks. -/
namespace Go.Proofs.YtlmojkknlkfloaaDoor
open Go.RowKit Num
set_option maxRecDepth 100000

theorem bl_split {v u : Int} {a : Nat} (h : v = pw a * u) (h0 : 0 < u) : bl v = a + bl u := by
  obtain ⟨t, e, t0, t1⟩ := bl_spec h0
  have hp := pw_pos a
  have e0 : bl v = ((a + t : Nat) : Int) + 1 := by
    refine bl_unique ?_ ?_
    · rw [pw_add, h]; exact Int.mul_le_mul_of_nonneg_left t0 (by omega)
    · rw [Nat.add_assoc, pw_add, h]; exact Int.mul_lt_mul_of_pos_left t1 hp
  rw [e0, e]; omega
theorem odd_53 {v : Int} (h0 : 0 < v) (h1 : v < 9007199254740992) : ∃ (a : Nat) (u : Int), v = pw a * u ∧ u % 2 = 1 ∧ 0 < u ∧ u < 9007199254740992 ∧ bl v = a + bl u ∧ (a : Int) ≤ 53 ∧ 1 ≤ bl u ∧ bl v ≤ 53 := by
  obtain ⟨h, hu, hp⟩ := odd_split h0
  have hb := bl_split h hp
  have h53 := bl_lt (v := v) (a := 53) (by omega) (by rw [show pw 53 = 9007199254740992 from by decide]; exact h1)
  have hpu := bl_pos hp
  refine ⟨tz v, oddI v, h, hu, hp, ?_, hb, by omega, hpu, h53⟩
  have : oddI v ≤ v := by
    have hp2 := pw_pos (tz v)
    have := Int.mul_le_mul_of_nonneg_right (show 1 ≤ pw (tz v) by omega) (show 0 ≤ oddI v by omega)
    rw [← h] at this; omega
  omega
theorem word_odd (neg : Bool) {u e : Int} (h0 : 0 < u) (h1 : u < 9007199254740992) (hu : u % 2 = 1) (e0 : -262144 ≤ e) (e1 : e ≤ 262144) : wordD neg (wd u) e = wordI neg u e := by
  unfold wordD
  have hl : wd u = [u] := wd_small h0 (by omega)
  rw [plainB_words h0, hl, val_one]
  simp [hu, e0, e1]
theorem bl_top {v : Int} (h0 : 4503599627370496 ≤ v) (h1 : v < 9007199254740992) : bl v = 53 := by
  have := bl_unique (v := v) (a := 52) (by rw [show pw 52 = 4503599627370496 from by decide]; exact h0) (by rw [show pw 53 = 9007199254740992 from by decide]; exact h1)
  rw [this]; rfl
theorem mkD_odd (neg : Bool) {v e u : Int} {a : Nat} (h : v = pw a * u) (hu : u % 2 = 1) (h0 : 0 < u) (h1 : u < 18446744073709551616) (e0 : e ≤ 1000) (e1 : -2000 ≤ e) (e2 : (a : Int) ≤ 53) : mkD neg v e = some ⟨neg, u, e + a⟩ :=
  mkD_split neg h hu h0 h1 (by omega) (by omega) (by omega)
theorem number_back {b : Int} (h0 : 0 ≤ b) (h1 : b < 18446744073709551616) {d : Dy} (h : numD b = some d) : ∃ k, wordD d.neg (wd d.m) d.e = some k ∧ (k = b ∨ kindI b = 0 ∧ k = 0) := by
  unfold numD at h
  have hf := frac_range b
  have hx := expo_range b
  have hb : sg (negB b) + expo b * 4503599627370496 + frac b = b := by
    unfold sg negB expo frac
    by_cases hh : 9223372036854775808 ≤ b
    · simp [hh]; omega
    · simp [hh]; omega
  by_cases c1 : expo b = 2047
  · rw [if_pos c1] at h; cases h
  · rw [if_neg c1] at h
    by_cases c2 : expo b = 0
    · rw [if_pos c2] at h
      by_cases c3 : frac b = 0
      · rw [c3] at h
        unfold mkD at h
        rw [if_pos rfl] at h
        obtain rfl := Option.some.inj h
        have hk : kindI b = 0 := by unfold kindI; rw [if_neg c1, if_pos c2, if_pos c3]
        refine ⟨0, ?_, .inr ⟨hk, rfl⟩⟩
        have : wd Dy.zero.m = [] := wd_zero (Int.le_refl _)
        unfold wordD
        rw [this]
        decide
      · obtain ⟨a, u, hs, hu, hp, hlt, hbl, ha, hpu, _⟩ := odd_53 (v := frac b) (by omega) (by omega)
        rw [mkD_odd _ hs hu hp (by omega) (by omega) (by omega) ha] at h
        obtain rfl := Option.some.inj h
        have h52 := bl_lt (v := frac b) (a := 52) (by omega) (by rw [show pw 52 = 4503599627370496 from by decide]; omega)
        refine ⟨b, ?_, .inl rfl⟩
        show wordD (negB b) (wd u) (-1074 + a) = some b
        rw [word_odd _ hp hlt hu (by omega) (by omega)]
        unfold wordI
        rw [if_neg (by omega), if_pos (by omega), show (-1074 + (a : Int) + 1074).toNat = a from by omega, Option.some.injEq]
        rw [c2, hs] at hb
        rw [Int.mul_comm u]
        show sg (negB b) + pw a * u = b
        omega
    · rw [if_neg c2] at h
      obtain ⟨a, u, hs, hu, hp, hlt, hbl, ha, hpu, _⟩ := odd_53 (v := frac b + 4503599627370496) (by omega) (by omega)
      rw [mkD_odd _ hs hu hp (by omega) (by omega) (by omega) ha] at h
      obtain rfl := Option.some.inj h
      have h53 := bl_top (v := frac b + 4503599627370496) (by omega) (by omega)
      refine ⟨b, ?_, .inl rfl⟩
      show wordD (negB b) (wd u) (expo b - 1075 + a) = some b
      rw [word_odd _ hp hlt hu (by omega) (by omega)]
      unfold wordI
      rw [if_neg (by omega), if_neg (by omega), show (53 - bl u).toNat = a from by omega, Option.some.injEq]
      rw [Int.mul_comm u]
      show sg (negB b) + (bl u + (expo b - 1075 + a) + 1022) * 4503599627370496 + pw a * u - 4503599627370496 = b
      rw [← hs]; omega
theorem sameB_self (p : Bool) (xs : List Int) (e : Int) : sameB p p xs xs e e = true := by simp [sameB]
end Go.Proofs.YtlmojkknlkfloaaDoor
/- Layer 2's laws: the same twice. -/
namespace Go.Proofs.YtlmojkknlkfloaaDoor
open Go.RowKit Num
set_option maxRecDepth 100000

end Go.Proofs.YtlmojkknlkfloaaDoor
