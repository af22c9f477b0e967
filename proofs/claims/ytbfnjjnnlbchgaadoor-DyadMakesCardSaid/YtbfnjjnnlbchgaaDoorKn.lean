/- Knuth's way of parting, in numbers alone: Div64's halves, a digit's guess, a round. -/
import Derived.Test.YtbfnjjnnlbchgaaDoorNum
import Derived.Test.YtbfnjjnnlbchgaaDoorMem
import Derived.Test.YtbfnjjnnlbchgaaDoorNatD
namespace Go.Proofs.YtbfnjjnnlbchgaaDoor
open Go.RowKit Num

/-- A quotient and what is left, or nothing. -/
def divI (x y : Int) : Int := if y = 0 then 0 else x / y
def modI (x y : Int) : Int := if y = 0 then 0 else x % y
def RetDM (x y : Int) (w : World) (e : Ending) (w' : World) : Prop :=
  ∃ A1 n1 c1 A2 n2 c2, e = .returned (.tuple #[.slice A1 n1 c1, .slice A2 n2 c2, .bool (decide (0 < y))]) ∧ Arr w' A1 n1 c1 (wd (divI x y)) ∧ Arr w' A2 n2 c2 (wd (modI x y)) ∧ Below w.heap.size w w'
theorem half_next {y1 y0 u v q r t : Int} (hv' : v < 4294967296) (hy : 0 < y1 * 4294967296 + y0) (hu : u < y1 * 4294967296 + y0) (hI : q * y1 + r = u)
    (ht : t = (u * 4294967296 + v) / (y1 * 4294967296 + y0)) (hq : t ≤ q) (hc : 4294967296 ≤ q ∨ 4294967296 * r + v < q * y0) : t ≤ q - 1 := by
  have ht1 : t < 4294967296 := by
    rw [ht]
    apply Int.ediv_lt_of_lt_mul hy
    generalize y1 * 4294967296 + y0 = y at *
    omega
  rcases hc with h | h
  · omega
  · by_cases e : t = q
    · exfalso
      have h1 : q * (y1 * 4294967296 + y0) ≤ u * 4294967296 + v := by rw [← e, ht]; exact Int.ediv_mul_le _ (by omega)
      have h2 : q * (y1 * 4294967296 + y0) = (u - r) * 4294967296 + q * y0 := by rw [← hI]; grind
      rw [h2] at h1
      omega
    · omega
theorem half_end {y1 y0 u v q r t : Int} (hy : 0 < y1 * 4294967296 + y0) (hI : q * y1 + r = u)
    (ht : t = (u * 4294967296 + v) / (y1 * 4294967296 + y0)) (hq : t ≤ q) (hc : q * y0 ≤ 4294967296 * r + v) : q = t := by
  have h2 : q * (y1 * 4294967296 + y0) = (u - r) * 4294967296 + q * y0 := by rw [← hI]; grind
  have : q ≤ t := by
    rw [ht]
    exact Int.le_ediv_of_mul_le hy (by rw [h2]; omega)
  omega
theorem half_break {y1 y0 u v q r t : Int} (hy1 : 0 < y1) (hy0 : 0 ≤ y0) (hy0' : y0 < 4294967296) (hv : 0 ≤ v) (hu : u < y1 * 4294967296 + y0) (hI : q * y1 + r = u)
    (ht : t = (u * 4294967296 + v) / (y1 * 4294967296 + y0)) (hq : t ≤ q) (hr : 4294967296 ≤ r) : q = t := by
  have hq1 : q < 4294967296 := by
    by_cases h : q < 4294967296
    · exact h
    · exfalso
      have : 4294967296 * y1 ≤ q * y1 := Int.mul_le_mul_of_nonneg_right (by omega) (by omega)
      omega
  have h3 : q * y0 ≤ 4294967296 * y0 := Int.mul_le_mul_of_nonneg_right (by omega) hy0
  exact half_end (by omega) hI ht hq (by omega)
theorem div_two (a b m : Int) {y : Int} (hy : 0 < y) : (a * m + b) / y = a / y * m + (a % y * m + b) / y := by
  have h := Int.mul_ediv_add_emod a y
  have e : a * m + b = (a % y * m + b) + y * (a / y * m) := by
    conv => lhs; rw [← h]
    grind
  rw [e, Int.add_mul_ediv_left _ _ (by omega)]; omega
theorem mod_two (a b m : Int) (y : Int) : (a * m + b) % y = (a % y * m + b) % y := by
  have h := Int.mul_ediv_add_emod a y
  have e : a * m + b = (a % y * m + b) + y * (a / y * m) := by
    conv => lhs; rw [← h]
    grind
  rw [e, Int.add_mul_emod_self_left]
theorem kn_guess {R dl ul top next u0 u1 u2 D U : Int} (hR : 0 < R) (hdl : 0 ≤ dl) (hul : ul < R) (htop : 0 < top) (hnext : 0 ≤ next) (hu0 : u0 < B)
    (hD : D = dl + R * (next + B * top)) (hU : U = ul + R * (u0 + B * (u1 + B * u2))) (hU0 : 0 ≤ U) : U / D ≤ (u2 * B + u1) / top := by
  have hB := B_pos
  have hbt : 0 < B * top := Int.mul_pos hB htop
  have hDpos : 0 < D := by
    have : 0 < R * (next + B * top) := Int.mul_pos hR (by omega)
    omega
  have h1 : U / D * D ≤ U := Int.ediv_mul_le _ (by omega)
  have ht0 : 0 ≤ U / D := Int.ediv_nonneg hU0 (by omega)
  apply Int.le_ediv_of_mul_le htop
  generalize U / D = t at *
  have hRB : 0 < R * B := Int.mul_pos hR hB
  have h2 : t * top * (R * B) ≤ t * D := by
    have e : t * D = t * dl + t * (R * next) + t * top * (R * B) := by rw [hD]; grind
    have a1 : 0 ≤ t * dl := Int.mul_nonneg ht0 hdl
    have a2 : 0 ≤ t * (R * next) := Int.mul_nonneg ht0 (Int.mul_nonneg (by omega) hnext)
    omega
  have h3 : U < (u2 * B + u1 + 1) * (R * B) := by
    have e : (u2 * B + u1 + 1) * (R * B) = R * (u0 + B * (u1 + B * u2)) + R * (B - u0) := by grind
    have : R * 1 ≤ R * (B - u0) := Int.mul_le_mul_of_nonneg_left (by omega) (by omega)
    omega
  by_cases h : t * top ≤ u2 * B + u1
  · exact h
  · exfalso
    have : (u2 * B + u1 + 1) * (R * B) ≤ t * top * (R * B) := Int.mul_le_mul_of_nonneg_right (by omega) (by omega)
    omega
theorem kn_step {R dl ul top next u0 u1 u2 D U g left : Int} (hR : 0 < R) (hdl : 0 ≤ dl) (hul : ul < R) (hg0 : 0 ≤ g) (hDp : 0 < D)
    (hD : D = dl + R * (next + B * top)) (hU : U = ul + R * (u0 + B * (u1 + B * u2))) (hI : g * top + left = u2 * B + u1) (hc : left * B + u0 < g * next) (ht : U / D ≤ g) : U / D ≤ g - 1 := by
  by_cases e : U / D = g
  · exfalso
    have h1 : g * D ≤ U := by rw [← e]; exact Int.ediv_mul_le _ (by omega)
    have e2 : g * D = g * dl + R * (g * next + B * (u2 * B + u1 - left)) := by rw [hD, ← hI]; grind
    have a1 : 0 ≤ g * dl := Int.mul_nonneg hg0 hdl
    have e3 : R * (g * next + B * (u2 * B + u1 - left)) = R * (u0 + B * (u1 + B * u2)) + R * (g * next - (left * B + u0)) := by grind
    have : R * 1 ≤ R * (g * next - (left * B + u0)) := Int.mul_le_mul_of_nonneg_left (by omega) (by omega)
    omega
  · omega
theorem val_top2 {ds : List Int} {k : Nat} (hl : ds.length = k) (hk : 2 ≤ k) : val ds = val (ds.take (k - 2)) + B ^ (k - 2) * (ds.getD (k - 2) 0 + B * ds.getD (k - 1) 0) := by
  have e1 := val_at ds (k - 2) (by omega)
  have e2 : ds.drop (k - 2 + 1) = [ds.getD (k - 1) 0] := by
    rw [show k - 2 + 1 = k - 1 from by omega, List.drop_eq_getElem_cons (by omega), List.drop_eq_nil_of_le (by omega), List.getD_eq_getElem?_getD, List.getElem?_eq_getElem (by omega)]
    rfl
  rw [e1, e2, val_one]
  simp only [List.getD_eq_getElem?_getD]
theorem val_top3 {zs : List Int} {k : Nat} (hl : zs.length = k + 1) (hk : 2 ≤ k) : val zs = val (zs.take (k - 2)) + B ^ (k - 2) * (zs.getD (k - 2) 0 + B * (zs.getD (k - 1) 0 + B * zs.getD k 0)) := by
  have e1 := val_at zs (k - 2) (by omega)
  have e2 : zs.drop (k - 2 + 1) = [zs.getD (k - 1) 0, zs.getD k 0] := by
    rw [show k - 2 + 1 = k - 1 from by omega, List.drop_eq_getElem_cons (by omega), show k - 1 + 1 = k from by omega, List.drop_eq_getElem_cons (by omega), List.drop_eq_nil_of_le (by omega)]
    simp only [List.getD_eq_getElem?_getD, List.getElem?_eq_getElem (show k - 1 < zs.length by omega), List.getElem?_eq_getElem (show k < zs.length by omega)]
    rfl
  rw [e1, e2, val_cons, val_one]
  simp only [List.getD_eq_getElem?_getD]
theorem take_succ_val {ds : List Int} {i : Nat} (hi : i < ds.length) : val (ds.take (i + 1)) = val (ds.take i) + B ^ i * ds.getD i 0 := by
  rw [take_last (xs := ds) (k := i + 1) (by omega) (by omega), Nat.add_sub_cancel, val_append, List.length_take, Nat.min_eq_left (by omega), List.getD_eq_getElem?_getD]
  simp [val]
theorem less_step {V : Int} {ds zs : List Int} {i : Nat} {G cy s cy' : Int} (hl : i < zs.length) (hi : i < ds.length) (hv : val zs - cy * B ^ i = V - G * val (ds.take i))
    (hs : s - B * cy' = zs.getD i 0 - G * ds.getD i 0 - cy) : val (zs.set i s) - cy' * B ^ (i + 1) = V - G * val (ds.take (i + 1)) := by
  rw [val_set _ _ _ hl, take_succ_val hi, Int.pow_succ]
  have e : s = zs.getD i 0 - G * ds.getD i 0 - cy + B * cy' := by omega
  rw [e]
  generalize zs.getD i 0 = z at *
  generalize ds.getD i 0 = d at *
  generalize B ^ i = p at *
  grind
theorem less_last {V : Int} {zs : List Int} {k : Nat} {cy s cy' : Int} (hl : k < zs.length) (hv : val zs - cy * B ^ k = V) (hs : s - B * cy' = zs.getD k 0 - cy) : val (zs.set k s) - cy' * B ^ (k + 1) = V := by
  rw [val_set _ _ _ hl, Int.pow_succ]
  have e : s = zs.getD k 0 - cy + B * cy' := by omega
  rw [e, ← hv]
  generalize zs.getD k 0 = z at *
  generalize B ^ k = p at *
  grind
theorem back_step {V : Int} {ds zs : List Int} {i : Nat} {cy s cy' : Int} (hl : i < zs.length) (hi : i < ds.length) (hv : val zs + cy * B ^ i = V + val (ds.take i))
    (hs : s + B * cy' = zs.getD i 0 + ds.getD i 0 + cy) : val (zs.set i s) + cy' * B ^ (i + 1) = V + val (ds.take (i + 1)) := by
  rw [val_set _ _ _ hl, take_succ_val hi, Int.pow_succ]
  have e : s = zs.getD i 0 + ds.getD i 0 + cy - B * cy' := by omega
  rw [e]
  generalize zs.getD i 0 = z at *
  generalize ds.getD i 0 = d at *
  generalize B ^ i = p at *
  grind
theorem back_last {V : Int} {zs : List Int} {k : Nat} {cy s cy' : Int} (hl : k < zs.length) (hv : val zs + cy * B ^ k = V) (hs : s + B * cy' = zs.getD k 0 + cy) : val (zs.set k s) + cy' * B ^ (k + 1) = V := by
  rw [val_set _ _ _ hl, Int.pow_succ]
  have e : s = zs.getD k 0 + cy - B * cy' := by omega
  rw [e, ← hv]
  generalize zs.getD k 0 = z at *
  generalize B ^ k = p at *
  grind
/-- With a borrow left the guess was too great. -/
theorem less_more {zs : List Int} {k : Nat} {U D g : Int} (hw : Wf zs) (hl : zs.length = k + 1) (hD : 0 < D) (hv : val zs - 1 * B ^ (k + 1) = U - g * D) : U / D ≤ g - 1 := by
  have h1 := val_lt hw
  rw [hl] at h1
  have h2 : U < g * D := by omega
  have := Int.ediv_lt_of_lt_mul hD h2
  omega
theorem less_done {zs : List Int} {k : Nat} {U D g : Int} (hw : Wf zs) (hD : 0 < D) (hv : val zs - 0 * B ^ (k + 1) = U - g * D) (ht : U / D ≤ g) : g = U / D ∧ val zs = U - U / D * D := by
  have h1 := val_nonneg hw
  rw [Int.zero_mul, Int.sub_zero] at hv
  have h2 : g ≤ U / D := Int.le_ediv_of_mul_le hD (by omega)
  obtain rfl : g = U / D := by omega
  exact ⟨rfl, hv⟩
/-- A round: the window's quotient goes to the quotient's next place. -/
theorem kn_round {S Z' : List Int} {i k : Nat} {V D N : Int} (hw : Wf S) (hl : i + k + 1 ≤ S.length) (hD : 0 < D) (hDk : D < B ^ k)
    (hv : val S + B ^ (i + 1) * V * D = N) (hb : val (S.drop (i + 1)) < D)
    (hz : val Z' = val ((S.drop i).take (k + 1)) - val ((S.drop i).take (k + 1)) / D * D) :
    val (S.take i ++ Z' ++ S.drop (i + k + 1)) + B ^ i * (val ((S.drop i).take (k + 1)) / D + B * V) * D = N ∧ val ((S.take i ++ Z' ++ S.drop (i + k + 1)).drop i) < D := by
  have t0 : val (S.drop (i + k + 1)) = 0 := by
    have e : S.drop (i + k + 1) = (S.drop (i + 1)).drop k := by rw [List.drop_drop]; congr 1; omega
    rw [e, val_drop (hw.drop _)]
    exact Int.ediv_eq_zero_of_lt (val_nonneg (hw.drop _)) (by omega)
  have e1 : val (S.drop i) = val ((S.drop i).take (k + 1)) := by
    rw [val_take_drop (S.drop i) (k + 1) (by rw [List.length_drop]; omega), List.drop_drop, show i + (k + 1) = i + k + 1 from by omega, t0]
    omega
  have e2 := val_take_drop S i (by omega)
  have li : (S.take i).length = i := by rw [List.length_take]; omega
  have e3 : val (S.take i ++ Z' ++ S.drop (i + k + 1)) = val (S.take i) + B ^ i * val Z' := by
    rw [val_append, val_append, t0, li]; omega
  constructor
  · rw [e3, hz, ← hv, e2, e1, Int.pow_succ]
    generalize val ((S.drop i).take (k + 1)) = z
    generalize z / D = t
    generalize B ^ i = p
    grind
  · have e4 : (S.take i ++ Z' ++ S.drop (i + k + 1)).drop i = Z' ++ S.drop (i + k + 1) := by
      rw [List.append_assoc, List.drop_append_of_le_length (by omega), List.drop_eq_nil_of_le (by omega), List.nil_append]
    rw [e4, val_append, t0, Int.mul_zero, Int.add_zero, hz]
    have := Int.emod_lt_of_pos (val ((S.drop i).take (k + 1))) hD
    rw [Int.emod_def, Int.mul_comm] at this
    exact this
theorem kn_lt {S : List Int} {i k : Nat} {D : Int} (hw : Wf S) (hl : i + k + 1 ≤ S.length) (hb : val (S.drop (i + 1)) < D) : val ((S.drop i).take (k + 1)) / D ≤ B - 1 ∧ 0 ≤ val ((S.drop i).take (k + 1)) / D := by
  have hn := val_nonneg (hw.drop (i + 1))
  have hle : val ((S.drop i).take (k + 1)) ≤ val (S.drop i) := by
    have h := val_take_drop (S.drop i) (k + 1) (by rw [List.length_drop]; omega)
    have h2 : 0 ≤ B ^ (k + 1) * val ((S.drop i).drop (k + 1)) := Int.mul_nonneg (Int.le_of_lt (B_pow_pos _)) (val_nonneg ((hw.drop _).drop _))
    omega
  have e : val (S.drop i) = S.getD i 0 + B * val (S.drop (i + 1)) := by
    rw [List.drop_eq_getElem_cons (by omega), val_cons, List.getD_eq_getElem?_getD, List.getElem?_eq_getElem (by omega)]
    rfl
  have hx := hw.getD i
  have h1 : val ((S.drop i).take (k + 1)) / D < B := by
    apply Int.ediv_lt_of_lt_mul (by omega)
    have : B * val (S.drop (i + 1)) ≤ B * (D - 1) := Int.mul_le_mul_of_nonneg_left (by omega) (Int.le_of_lt B_pos)
    have e3 : B * (D - 1) = B * D - B := by grind
    rw [B_eq] at *
    omega
  exact ⟨by omega, Int.ediv_nonneg (val_nonneg ((hw.drop _).take _)) (by omega)⟩
theorem kn_start {X Y : Int} {n k s : Nat} {S : List Int} (hw : Wf S) (hS : val S = X * pw s) (hX : X < B ^ n) (hk : 1 ≤ k) (hkn : k ≤ n) (hY : B ^ (k - 1) ≤ Y) : val (S.drop (n - k + 1)) < Y * pw s := by
  rw [val_drop hw, hS]
  apply Int.ediv_lt_of_lt_mul (B_pow_pos _)
  have e : B ^ n = B ^ (k - 1) * B ^ (n - k + 1) := by rw [← Int.pow_add]; congr 1; omega
  have h1 : X * pw s < B ^ n * pw s := Int.mul_lt_mul_of_pos_right hX (pw_pos s)
  have h2 : B ^ (k - 1) * (B ^ (n - k + 1) * pw s) ≤ Y * (B ^ (n - k + 1) * pw s) := Int.mul_le_mul_of_nonneg_right hY (Int.le_of_lt (Int.mul_pos (B_pow_pos _) (pw_pos s)))
  have e2 : B ^ n * pw s = B ^ (k - 1) * (B ^ (n - k + 1) * pw s) := by rw [e]; grind
  have e3 : Y * pw s * B ^ (n - k + 1) = Y * (B ^ (n - k + 1) * pw s) := by grind
  omega
theorem kn_end {S Qs : List Int} {X Y N D : Int} {s : Nat} (hw : Wf S) (hY : 0 < Y) (hD : D = Y * pw s) (hN : N = X * pw s) (hv : val S + B ^ 0 * val (Qs.drop 0) * D = N) (hb : val (S.drop 0) < D) :
    val Qs = X / Y ∧ val S / pw s = X % Y := by
  rw [List.drop_zero] at hb hv
  rw [Int.pow_zero, Int.one_mul] at hv
  have hp := pw_pos s
  have h0 := val_nonneg hw
  have hDp : 0 < D := by rw [hD]; exact Int.mul_pos hY hp
  have e1 : N / D = val Qs := by
    rw [← hv, Int.add_mul_ediv_right _ _ (by omega), Int.ediv_eq_zero_of_lt h0 hb, Int.zero_add]
  have e2 : N % D = val S := by
    rw [← hv, Int.add_mul_emod_self_right, Int.emod_eq_of_lt h0 hb]
  rw [hN, hD] at e1 e2
  rw [Int.mul_ediv_mul_of_pos_left _ _ hp] at e1
  rw [Int.mul_comm X, Int.mul_comm Y, Int.mul_emod_mul_of_pos _ _ hp] at e2
  exact ⟨e1.symm, by rw [← e2]; exact Int.mul_ediv_cancel_left _ (by omega)⟩
end Go.Proofs.YtbfnjjnnlbchgaaDoor
