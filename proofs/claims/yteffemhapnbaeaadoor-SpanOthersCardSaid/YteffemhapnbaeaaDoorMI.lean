/- The document's difference. -/
import Derived.Test.YteffemhapnbaeaaDoorMH
import Derived.Test.YteffemhapnbaeaaDoorMC
import Derived.Test.YteffemhapnbaeaaDoorMF
namespace Go.Proofs.YteffemhapnbaeaaDoor
open Go.RowKit Num
set_option maxRecDepth 100000

theorem sub_step {S X Y : List Int} {i : Nat} {bw n : Int} (hl : S.length = i) (h : Dig.val S - bw * Dig.B ^ i = Dig.val (X.take i) - Dig.val (Y.take i)) (hn : n = X.getD i 0 + 65536 - bw - Y.getD i 0) :
    Dig.val (S ++ [n % 65536]) - (1 - n / 65536) * Dig.B ^ (i + 1) = Dig.val (X.take (i + 1)) - Dig.val (Y.take (i + 1)) := by
  rw [dig_snoc, hl, dig_take, dig_take, Int.pow_succ]
  have e : n = n % 65536 + Dig.B * (n / 65536) := by rw [Dig.B_eq]; omega
  generalize Dig.B ^ i = p at *
  generalize X.getD i 0 = x at *
  generalize Y.getD i 0 = y at *
  generalize n % 65536 = a at *
  generalize n / 65536 = b at *
  have e2 : p * a - (1 - b) * (p * Dig.B) = p * n - p * Dig.B := by rw [e]; grind
  have e3 : p * n = p * x + p * 65536 - p * bw - p * y := by rw [hn]; grind
  have e4 : bw * p = p * bw := Int.mul_comm _ _
  have e5 : p * Dig.B = p * 65536 := rfl
  omega
theorem sub_last {S X Y : List Int} {i : Nat} {bw : Int} (hw : Dig.Wf S) (hl : S.length = i) (h : Dig.val S - bw * Dig.B ^ i = Dig.val (X.take i) - Dig.val (Y.take i)) (hx : X.length ≤ i) (hy : Y.length ≤ i) (hle : Dig.val Y ≤ Dig.val X) (h0 : 0 ≤ bw) :
    Dig.val S = Dig.val X - Dig.val Y := by
  rw [List.take_of_length_le hx, List.take_of_length_le hy] at h
  have h1 := Dig.val_lt hw
  rw [hl] at h1
  by_cases hb : bw = 0
  · subst hb; omega
  · have := Int.mul_le_mul_of_nonneg_right (show 1 ≤ bw by omega) (Int.le_of_lt (Dig.B_pow_pos i))
    omega
end Go.Proofs.YteffemhapnbaeaaDoor
/- Digits by a digit; a digit that isn't too great. -/
namespace Go.Proofs.YteffemhapnbaeaaDoor
open Go.RowKit Num
set_option maxRecDepth 100000

theorem times_step {S Y : List Int} {i : Nat} {cy d n : Int} (hl : S.length = i) (h : Dig.val S + cy * Dig.B ^ i = Dig.val (Y.take i) * d) (hn : n = Y.getD i 0 * d + cy) :
    Dig.val (S ++ [n % 65536]) + n / 65536 * Dig.B ^ (i + 1) = Dig.val (Y.take (i + 1)) * d := by
  rw [dig_snoc, hl, dig_take, Int.pow_succ]
  have e : n = n % 65536 + Dig.B * (n / 65536) := by rw [Dig.B_eq]; omega
  generalize Dig.B ^ i = p at *
  generalize n % 65536 = a at *
  generalize n / 65536 = b at *
  generalize Y.getD i 0 = y at *
  have e2 : p * a + b * (p * Dig.B) = p * n := by rw [e]; grind
  have e3 : p * n = p * (y * d) + cy * p := by rw [hn]; grind
  have e4 : (Dig.val (Y.take i) + p * y) * d = Dig.val (Y.take i) * d + p * (y * d) := by grind
  omega
theorem times_last {S Y : List Int} {i : Nat} {cy d : Int} (hl : S.length = i) (h : Dig.val S + cy * Dig.B ^ i = Dig.val (Y.take i) * d) (hi : Y.length ≤ i) : Dig.val (S ++ [cy]) = Dig.val Y * d := by
  rw [List.take_of_length_le hi] at h
  rw [dig_snoc, hl, ← h, Int.mul_comm]
/-- The highest three digits of what is left, from the divisor's length on. -/
def ovf (L : List Int) (n : Nat) : Nat → Int
  | 0 => 0
  | j + 1 => ovf L n j * 65536 + (if j ≤ n then L.getD (n - j) 0 else 0)
theorem ovf_range {L : List Int} (h : Dig.Wf L) (n : Nat) : (0 ≤ ovf L n 0 ∧ ovf L n 0 < 1) ∧ (0 ≤ ovf L n 1 ∧ ovf L n 1 < 65536) ∧ (0 ≤ ovf L n 2 ∧ ovf L n 2 < 4294967296) ∧ (0 ≤ ovf L n 3 ∧ ovf L n 3 < 281474976710656) := by
  have a := h.getD (n - 0)
  have b := h.getD (n - 1)
  have c := h.getD (n - 2)
  simp only [ovf]
  split <;> split <;> split <;> omega
theorem dig_three_at {L : List Int} (h : Dig.Wf L) (n : Nat) (hn : 2 ≤ n) : ovf L n 3 * Dig.B ^ (n - 2) ≤ Dig.val L := by
  have e : ∀ i, Dig.val (L.drop i) = L.getD i 0 + Dig.B * Dig.val (L.drop (i + 1)) := fun i => by
    by_cases hi : i < L.length
    · rw [List.drop_eq_getElem_cons hi, Dig.val_cons, List.getD_eq_getElem?_getD, List.getElem?_eq_getElem hi]; rfl
    · rw [List.drop_eq_nil_of_le (by omega), List.drop_eq_nil_of_le (by omega), List.getD_eq_getElem?_getD, List.getElem?_eq_none (by omega)]; rfl
  have e0 : Dig.B ^ (n - 2) * Dig.val (L.drop (n - 2)) ≤ Dig.val L := by
    rw [Dig.val_drop h]
    exact Int.mul_ediv_self_le (by have := Dig.B_pow_pos (n - 2); omega)
  have e1 := e (n - 2)
  have e2 := e (n - 1)
  have e3 := e n
  rw [show n - 2 + 1 = n - 1 from by omega] at e1
  rw [show n - 1 + 1 = n from by omega] at e2
  have h4 := Dig.val_nonneg (h.drop (n + 1))
  have e5 : ovf L n 3 ≤ Dig.val (L.drop (n - 2)) := by
    simp only [ovf]
    rw [if_pos (by omega), if_pos (by omega), if_pos (by omega), Nat.sub_zero]
    rw [Dig.B_eq] at *
    omega
  have := Int.mul_le_mul_of_nonneg_left e5 (Int.le_of_lt (Dig.B_pow_pos (n - 2)))
  rw [Int.mul_comm (ovf L n 3)]
  omega
theorem guess_good {L Y : List Int} {n : Nat} (hL : Dig.Wf L) (hY : Dig.Wf Y) (hn : Y.length = n) (h1 : 1 ≤ n) :
    ovf L n 3 / (Y.getD (n - 1) 0 * 65536 + (if 2 ≤ n then Y.getD (n - 2) 0 else 0) + 1) * Dig.val Y ≤ Dig.val L := by
  have a1 := hY.getD (n - 1)
  have a2 := hY.getD (n - 2)
  have o3 := (ovf_range hL n).2.2.2
  by_cases h2 : 2 ≤ n
  · rw [if_pos h2]
    have h3 := dig_three_at hL n h2
    have hy : Dig.val Y < (Y.getD (n - 1) 0 * 65536 + Y.getD (n - 2) 0 + 1) * Dig.B ^ (n - 2) := by
      have e1 := Dig.val_take_drop Y (n - 2) (by omega)
      have e2 : Y.drop (n - 2) = [Y.getD (n - 2) 0, Y.getD (n - 1) 0] := by
        rw [List.drop_eq_getElem_cons (by omega), show n - 2 + 1 = n - 1 from by omega, List.drop_eq_getElem_cons (by omega), List.drop_eq_nil_of_le (by omega)]
        simp only [List.getD_eq_getElem?_getD, List.getElem?_eq_getElem (show n - 2 < Y.length by omega), List.getElem?_eq_getElem (show n - 1 < Y.length by omega)]
        rfl
      have e3 := Dig.val_lt (hY.take (n - 2))
      rw [List.length_take, Nat.min_eq_left (by omega)] at e3
      rw [e1, e2]
      simp only [Dig.val]
      have e4 : (Y.getD (n - 1) 0 * 65536 + Y.getD (n - 2) 0 + 1) * Dig.B ^ (n - 2) = Dig.B ^ (n - 2) * (Y.getD (n - 2) 0 + Dig.B * (Y.getD (n - 1) 0 + Dig.B * 0)) + Dig.B ^ (n - 2) := by rw [Dig.B_eq]; grind
      omega
    have ht : 0 < Y.getD (n - 1) 0 * 65536 + Y.getD (n - 2) 0 + 1 := by omega
    generalize Y.getD (n - 1) 0 * 65536 + Y.getD (n - 2) 0 + 1 = t at *
    have q0 : 0 ≤ ovf L n 3 / t := Int.ediv_nonneg o3.1 (by omega)
    have q1 := Int.ediv_mul_le (ovf L n 3) (b := t) (by omega)
    have m1 : ovf L n 3 / t * Dig.val Y ≤ ovf L n 3 / t * (t * Dig.B ^ (n - 2)) := Int.mul_le_mul_of_nonneg_left (by omega) q0
    have m2 : ovf L n 3 / t * t * Dig.B ^ (n - 2) ≤ ovf L n 3 * Dig.B ^ (n - 2) := Int.mul_le_mul_of_nonneg_right q1 (Int.le_of_lt (Dig.B_pow_pos _))
    rw [Int.mul_assoc] at m2
    omega
  · rw [if_neg h2]
    obtain rfl : n = 1 := by omega
    have e1 : Dig.val Y = Y.getD 0 0 := by
      obtain ⟨y, rfl⟩ := List.length_eq_one_iff.1 hn
      simp [Dig.val]
    have e2 : ovf L 1 3 = (L.getD 1 0 * 65536 + L.getD 0 0) * 65536 := by simp [ovf]
    have e3 : L.getD 1 0 * 65536 + L.getD 0 0 ≤ Dig.val L := by
      rcases L with _ | ⟨x, _ | ⟨z, L⟩⟩
      · simp [Dig.val]
      · simp [Dig.val]
      · have := Dig.val_nonneg (Dig.wf_cons.1 (Dig.wf_cons.1 hL).2).2
        simp only [Dig.val, List.getD_cons_zero, List.getD_cons_succ, Dig.B_eq]
        omega
    rw [e1, e2]
    simp only [Nat.sub_self] at *
    generalize Y.getD 0 0 = y at *
    rw [e2] at o3
    generalize L.getD 1 0 * 65536 + L.getD 0 0 = l at *
    have q0 : 0 ≤ l * 65536 / (y * 65536 + 0 + 1) := Int.ediv_nonneg o3.1 (by omega)
    have q1 := Int.ediv_mul_le (l * 65536) (b := y * 65536 + 0 + 1) (by omega)
    generalize l * 65536 / (y * 65536 + 0 + 1) = q at *
    have e5 : q * (y * 65536 + 0 + 1) = q * y * 65536 + q := by grind
    omega
end Go.Proofs.YteffemhapnbaeaaDoor
/- The document's quotient. -/
namespace Go.Proofs.YteffemhapnbaeaaDoor
open Go.RowKit Num
set_option maxRecDepth 100000

theorem dig_drop_cons {X : List Int} {i : Nat} (hi : i < X.length) : Dig.val (X.drop i) = X.getD i 0 + 65536 * Dig.val (X.drop (i + 1)) := by
  rw [List.drop_eq_getElem_cons hi, Dig.val_cons, List.getD_eq_getElem?_getD, List.getElem?_eq_getElem hi]; rfl
theorem rdiv_round {X : List Int} {i : Nat} {y : Int} (hi : i < X.length) (hy : 0 < y) :
    Dig.val (X.drop i) / y = (X.getD i 0 + 65536 * (Dig.val (X.drop (i + 1)) % y)) / y + 65536 * (Dig.val (X.drop (i + 1)) / y) ∧
    Dig.val (X.drop i) % y = (X.getD i 0 + 65536 * (Dig.val (X.drop (i + 1)) % y)) % y := by
  rw [dig_drop_cons hi]
  have h1 := div_two (Dig.val (X.drop (i + 1))) (X.getD i 0) 65536 hy
  have h2 := mod_two (Dig.val (X.drop (i + 1))) (X.getD i 0) 65536 y
  generalize Dig.val (X.drop (i + 1)) = v at *
  generalize X.getD i 0 = x at *
  have e1 : v * 65536 + x = x + 65536 * v := by omega
  have e2 : v % y * 65536 + x = x + 65536 * (v % y) := by omega
  rw [e1, e2] at h1 h2
  exact ⟨by rw [h1]; omega, h2⟩
theorem rdiv_digit {x L y : Int} (hx0 : 0 ≤ x) (hx : x < 65536) (hL0 : 0 ≤ L) (hL : L < y) : 0 ≤ (x + 65536 * L) / y ∧ (x + 65536 * L) / y < 65536 := by
  refine ⟨Int.ediv_nonneg (by omega) (by omega), Int.ediv_lt_of_lt_mul (by omega) (by omega)⟩
theorem rdiv_found {l v y : Int} (hy : 0 < y) (h0 : l * y ≤ v) (h1 : v < y * (l + 1)) : v / y = l ∧ v % y = v - y * l := by
  have e : v / y = l := by
    have a := Int.le_ediv_of_mul_le hy h0
    have b := Int.ediv_lt_of_lt_mul hy (by rw [Int.mul_comm]; exact h1 : v < (l + 1) * y)
    omega
  refine ⟨e, ?_⟩
  rw [Int.emod_def, e]
theorem dig_set_drop {Q : List Int} {i : Nat} (hi : i < Q.length) (d : Int) : Dig.val ((Q.set i d).drop i) = d + 65536 * Dig.val (Q.drop (i + 1)) := by
  rw [dig_drop_cons (by rw [List.length_set]; exact hi), getD_set_same _ _ _ hi]
  congr 3
  rw [List.drop_set_of_lt (by omega)]
theorem owns_one {w : World} {base g : Nat} (hg : g = w.heap.size) (hb : base ≤ w.heap.size) (x : Int) : (w.alloc (.cells #[.int .u64 x] 45)).ownsRow base 45 1 (.slice (some ⟨g, 0, none⟩) 1 1) 1 (cellsOf [x]) := by
  subst hg; exact World.ownsRow_lit w #[.int .u64 x] 1 hb (by decide) (by simp)
theorem dig_len_le {a b : Int} {k : Nat} (h0 : 0 ≤ a) (h : a ≤ b) (hb : (Dig.wd b).length ≤ k) : (Dig.wd a).length ≤ k :=
  Dig.wd_length_le h0 (Int.lt_of_le_of_lt h (Dig.lt_pow_of_wd_length (by omega) hb))
end Go.Proofs.YteffemhapnbaeaaDoor
