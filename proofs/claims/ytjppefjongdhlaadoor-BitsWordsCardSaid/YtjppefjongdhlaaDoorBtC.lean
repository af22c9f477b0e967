/- The document's numbers of words; the words of numbers, on both sides. -/
import Derived.Test.YtjppefjongdhlaaDoorBtB
import Derived.Test.YtjppefjongdhlaaDoorDyC
import Derived.Test.YtjppefjongdhlaaDoorNatG
namespace Go.Proofs.YtjppefjongdhlaaDoor
open Go.RowKit Num
set_option maxRecDepth 100000

theorem rnumber (b : Int) (w : World) (h0 : 0 ≤ b) (h1 : b < 18446744073709551616) :
    Calls Tryd.prog 24 #[.int .u64 b] w (RetD (numD b) w) := by
  have N : Hid (numD b = if expo b = 2047 then none else if expo b = 0 then mkD (negB b) (frac b) (-1074) else mkD (negB b) (frac b + 4503599627370496) (expo b - 1075)) := rfl
  have b0 : Below w.heap.size w (w.alloc (.cells #[.bool false, .slice none 0 0, .int .i64 0] 30)) := below_alloc (below_self w) _
  have S := fun w => rparts b w h0 h1
  have G := fun w => rneg b w
  have r1 := expo_range b
  have r2 := frac_range b
  generalize numD b = o at *
  generalize expo b = x at *
  generalize frac b = f at *
  generalize negB b = nb at *
  have HS := Lib.hid S
  have HG := Lib.hid G
  clear S G
  have n := N.out
  clear N
  by_cases c1 : x = 2047
  · rw [if_pos c1] at n
    subst n; subst c1
    go_enter Tryd.func24, Tryd.ntmps24
    go_wp2_with (go_at_call 86; refine (HS.out _).mono ?_; rintro r w' ⟨rfl, rfl⟩)
    exact bodyPost_ret (v := .tuple #[.agg #[.bool false, .slice none 0 0, .int .i64 0], .bool false]) (by simp [results, Tryd.results24, go_sem]) rfl ⟨none, 0, 0, rfl, arr_no _, (by repeat (first | with_reducible assumption | exact below_self _ | refine below_set ?_ _ _ (by first | exact Nat.le_refl _ | omega | (simp; done) | (simp; omega)) _ | refine below_alloc ?_ _ | apply Below.drew | apply below_drewN))⟩
  · rw [if_neg c1] at n
    have d1 : (x == 2047) = false := by simp [c1]
    by_cases c2 : x = 0
    · rw [if_pos c2] at n
      subst c2
      have HN := Lib.hid n
      clear n
      have v0 := val_one f
      go_enter Tryd.func24, Tryd.ntmps24
      go_wp2_with (first | (go_at_call 86; refine (HS.out _).mono ?_; rintro r w' ⟨rfl, rfl⟩) | (go_at_call 27; refine (HG.out _).mono ?_; rintro r w' ⟨rfl, rfl⟩))
      have b1 := below_alloc b0 (.cells #[.int .u64 f] 22)
      refine (rmake nb _ 1 1 [f] (-1074) _ (arr_one (by simp) f r2.1 (by omega)) (by omega) (by omega) (by omega)).mono ?_
      rw [v0, ← HN.out]
      rintro r w4 ⟨A, n, c, rfl, hA, hb⟩
      have b4 := below_on b1 hb
      have bx := ((box_new w #[.bool false, .slice none 0 0, .int .i64 0] 30).below (below_new (Nat.le_refl _) (.cells #[.int .u64 f] 22)) (by simp)).later hb
      obtain ⟨k0, k1, k2, f0, f1, f2⟩ := bx.cell3
      go_wp2_with fail
      exact bodyPost_ret (v := .tuple #[.agg #[.bool (optD o).neg, .slice A n c, .int .i64 (optD o).e], .bool o.isSome]) (by simp [results, Tryd.results24, go_sem, k0, k1, k2]) rfl (retD_set hA bx b4 (Nat.le_refl _))
    · rw [if_neg c2] at n
      have d2 : (x == 0) = false := by simp [c2]
      have HN := Lib.hid n
      clear n
      go_enter Tryd.func24, Tryd.ntmps24
      go_wp2_with (first | (go_at_call 86; refine (HS.out _).mono ?_; rintro r w' ⟨rfl, rfl⟩) | (go_at_call 27; refine (HG.out _).mono ?_; rintro r w' ⟨rfl, rfl⟩))
      rw [show 4503599627370496 + f = f + 4503599627370496 from by omega]
      have b1 := below_alloc b0 (.cells #[.int .u64 (f + 4503599627370496)] 22)
      refine (rmake nb _ 1 1 [f + 4503599627370496] (x - 1075) _ (arr_one (by simp) _ (by omega) (by omega)) (by omega) (by omega) (by omega)).mono ?_
      rw [val_one, ← HN.out]
      rintro r w4 ⟨A, n, c, rfl, hA, hb⟩
      have b4 := below_on b1 hb
      have bx := ((box_new w #[.bool false, .slice none 0 0, .int .i64 0] 30).below (below_new (Nat.le_refl _) (.cells #[.int .u64 (f + 4503599627370496)] 22)) (by simp)).later hb
      obtain ⟨k0, k1, k2, f0, f1, f2⟩ := bx.cell3
      go_wp2_with fail
      exact bodyPost_ret (v := .tuple #[.agg #[.bool (optD o).neg, .slice A n c, .int .i64 (optD o).e], .bool o.isSome]) (by simp [results, Tryd.results24, go_sem, k0, k1, k2]) rfl (retD_set hA bx b4 (Nat.le_refl _))
def sg (neg : Bool) : Int := if neg then 9223372036854775808 else 0
/-- The word of a number, by the document. -/
def wordI (neg : Bool) (v e : Int) : Option Int :=
  if 53 < bl v ∨ 1024 < bl v + e ∨ e < -1074 then none
  else if bl v + e ≤ -1022 then some (sg neg + v * 2 ^ (e + 1074).toNat)
  else some (sg neg + (bl v + e + 1022) * 4503599627370496 + v * 2 ^ (53 - bl v).toNat - 4503599627370496)
def wordD (neg : Bool) (xs : List Int) (e : Int) : Option Int := if plainB neg xs e then (if xs.length = 0 then some 0 else wordI neg (val xs) e) else none
/-- A word, and whether there is one; boxes may have come. -/
def RetWB (o : Option Int) (w : World) (r : Ending) (w' : World) : Prop := r = .returned (.tuple #[.int .u64 (o.getD 0), .bool o.isSome]) ∧ Below w.heap.size w w'
theorem plainB_top {neg : Bool} {xs : List Int} {e : Int} (h : plainB neg xs e = true) (h0 : xs.length ≠ 0) : xs.getD (xs.length - 1) 0 ≠ 0 ∧ xs.length ≤ 256 ∧ -262144 ≤ e ∧ e ≤ 262144 ∧ xs.getD 0 0 % 2 = 1 := by
  unfold plainB at h
  rw [if_neg h0] at h
  simp only [Bool.and_eq_true, decide_eq_true_eq, ne_eq] at h
  exact ⟨h.1.1.1.1, h.1.1.2, h.1.2, h.2, h.1.1.1.2⟩
theorem top_of {xs : List Int} (h0 : xs.length ≠ 0) (h : xs.getD (xs.length - 1) 0 ≠ 0) : Top xs := by
  unfold Top
  rw [List.getLast?_eq_getElem?, List.getElem?_eq_getElem (by omega)]
  rw [List.getD_eq_getElem?_getD, List.getElem?_eq_getElem (by omega)] at h
  simpa using h
/-- The first word of a shift that stays below 2^64. -/
theorem shl_first {v : Int} {k : Nat} (hv : 0 < v) (hlt : v * 2 ^ k < 18446744073709551616) : wd (v * 2 ^ k) = [v * 2 ^ k] := by
  have hp : (0 : Int) < 2 ^ k := Int.pow_pos (by decide)
  exact wd_small (Int.mul_pos hv hp) hlt
theorem mul_bl {v : Int} {k : Nat} (hv : 0 < v) : pw (bl v - 1 + k).toNat ≤ v * 2 ^ k ∧ v * 2 ^ k < pw (bl v + k).toNat := by
  obtain ⟨a, e, a0, a1⟩ := bl_spec hv
  have hp := pw_pos k
  rw [e, show ((a : Int) + 1 - 1 + k).toNat = a + k from by omega, show ((a : Int) + 1 + k).toNat = (a + 1) + k from by omega, pw_add, pw_add]
  exact ⟨Int.mul_le_mul_of_nonneg_right a0 (by omega), Int.mul_lt_mul_of_pos_right a1 hp⟩
end Go.Proofs.YtjppefjongdhlaaDoor
