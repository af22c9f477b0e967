/- Walks and laws that the claim's row needs. No conditions. -/
import Derived.BigQuiet
import Derived.Deep.RegionWith
import Derived.Test.YteffemhapnbaeaaGreatDoorQad
import Derived.Test.YteffemhapnbaeaaGreatDoorQaa
import Derived.Test.YteffemhapnbaeaaGreatDoorQac
import Derived.Test.YteffemhapnbaeaaGreatDoorQab
set_option maxHeartbeats 16000000
set_option linter.unusedSimpArgs false
set_option linter.unusedVariables false
namespace Go.Proofs.YteffemhapnbaeaaGreatDoor
open Go.RowKit Num
set_option maxRecDepth 100000
theorem Bbh (x y : Int) (w : World) (hx0 : 0 ≤ x) (hx : x < 18446744073709551616) (hy0 : 0 < y) (hy : y < 18446744073709551616) :
  Calls Tryz.prog 130 #[.int .u64 0, .int .u64 x, .int .u64 y] w fun e w' => e = .returned (.tuple #[.int .u64 (x / y), .int .u64 (x % y)]) ∧ Still w w' := by
 have d1 : (y == 0) = false := beq_eq_false_iff_ne.2 (by omega)
 have d2 : decide (y ≤ 0) = false := by simp; omega
 have q1 : 0 ≤ x / y := Int.ediv_nonneg hx0 (by omega)
 have q2 : x / y ≤ x := Int.ediv_le_self _ hx0
 have q3 : 0 ≤ x % y := Int.emod_nonneg _ (by omega)
 have q4 : x % y < y := Int.emod_lt_of_pos _ hy0
 have t1 : x.tdiv y = x / y := Int.tdiv_eq_ediv_of_nonneg hx0
 have t2 : x.tmod y = x % y := Int.tmod_eq_emod_of_nonneg hx0
 go_enter Tryz.func130, Tryz.ntmps130
 go_wp2
 go_quiet (fail)
 go_wp2
 go_ret2
 exact ⟨by first | rfl | simp [t1, t2], ⟨_, rfl⟩⟩
def Rl (x y : Int) : Int := if y = 0 then 0 else x / y
def Rm (x y : Int) : Int := if y = 0 then 0 else x % y
def Jh (x y : Int) (w : World) (e : Ending) (w' : World) : Prop :=
 ∃ A1 n1 c1 A2 n2 c2, e = .returned (.tuple #[.slice A1 n1 c1, .slice A2 n2 c2, .bool (decide (0 < y))]) ∧ Arr w' A1 n1 c1 (wd (Rl x y)) ∧ Arr w' A2 n2 c2 (wd (Rm x y)) ∧ Below w.heap.size w w'
theorem Li {y1 y0 u v q r t : Int} (hv' : v < 4294967296) (hy : 0 < y1 * 4294967296 + y0) (hu : u < y1 * 4294967296 + y0) (hI : q * y1 + r = u)
  (ht : t = (u * 4294967296 + v) / (y1 * 4294967296 + y0)) (hq : t ≤ q) (hc : 4294967296 ≤ q ∨ 4294967296 * r + v < q * y0) : t ≤ q - 1 := by
 have ht1 : t < 4294967296 := by
  rw [ht]
  apply Int.ediv_lt_of_lt_mul hy
  generalize y1 * 4294967296 + y0 = y at *
  omega
 rcases hc with h | h
 ·omega
 ·by_cases e : t = q
  ·exfalso
   have h1 : q * (y1 * 4294967296 + y0) ≤ u * 4294967296 + v := by rw [← e, ht]; exact Int.ediv_mul_le _ (by omega)
   have h2 : q * (y1 * 4294967296 + y0) = (u - r) * 4294967296 + q * y0 := by rw [← hI]; grind
   rw [h2] at h1
   omega
  ·omega
theorem Kw {y1 y0 u v q r t : Int} (hy : 0 < y1 * 4294967296 + y0) (hI : q * y1 + r = u)
  (ht : t = (u * 4294967296 + v) / (y1 * 4294967296 + y0)) (hq : t ≤ q) (hc : q * y0 ≤ 4294967296 * r + v) : q = t := by
 have h2 : q * (y1 * 4294967296 + y0) = (u - r) * 4294967296 + q * y0 := by rw [← hI]; grind
 have : q ≤ t := by
  rw [ht]
  exact Int.le_ediv_of_mul_le hy (by rw [h2]; omega)
 omega
theorem Jz {y1 y0 u v q r t : Int} (hy1 : 0 < y1) (hy0 : 0 ≤ y0) (hy0' : y0 < 4294967296) (hv : 0 ≤ v) (hu : u < y1 * 4294967296 + y0) (hI : q * y1 + r = u)
  (ht : t = (u * 4294967296 + v) / (y1 * 4294967296 + y0)) (hq : t ≤ q) (hr : 4294967296 ≤ r) : q = t := by
 have hq1 : q < 4294967296 := by
  by_cases h : q < 4294967296
  ·exact h
  ·exfalso
   have : 4294967296 * y1 ≤ q * y1 := Int.mul_le_mul_of_nonneg_right (by omega) (by omega)
   omega
 have h3 : q * y0 ≤ 4294967296 * y0 := Int.mul_le_mul_of_nonneg_right (by omega) hy0
 exact Kw (by omega) hI ht hq (by omega)
theorem Uz (a b m : Int) {y : Int} (hy : 0 < y) : (a * m + b) / y = a / y * m + (a % y * m + b) / y := by
 have h := Int.mul_ediv_add_emod a y
 have e : a * m + b = (a % y * m + b) + y * (a / y * m) := by
  conv => lhs; rw [← h]
  grind
 rw [e, Int.add_mul_ediv_left _ _ (by omega)]; omega
theorem Vf (a b m : Int) (y : Int) : (a * m + b) % y = (a % y * m + b) % y := by
 have h := Int.mul_ediv_add_emod a y
 have e : a * m + b = (a % y * m + b) + y * (a / y * m) := by
  conv => lhs; rw [← h]
  grind
 rw [e, Int.add_mul_emod_self_left]
theorem Bd9 {R dl ul top next u0 u1 u2 D U : Int} (hR : 0 < R) (hdl : 0 ≤ dl) (hul : ul < R) (htop : 0 < top) (hnext : 0 ≤ next) (hu0 : u0 < B)
  (hD : D = dl + R * (next + B * top)) (hU : U = ul + R * (u0 + B * (u1 + B * u2))) (hU0 : 0 ≤ U) : U / D ≤ (u2 * B + u1) / top := by
 have hB := B_pos
 have hbt : 0 < B * top := Int.mul_pos hB htop
 have hDpos : 0 < D := by
  have : 0 < R * (next + B * top) := Int.mul_pos hR (by omega)
  omega
 have h1 : U / D * D ≤ U := Int.ediv_mul_le _ (by omega)
 have ht0 : 0 ≤ U / D := Int.ediv_nonneg hU0 (by omega)
 apply Int.le_ediv_of_mul_le htop
 generalize U / D = t at *
 have hRB : 0 < R * B := Int.mul_pos hR hB
 have h2 : t * top * (R * B) ≤ t * D := by
  have e : t * D = t * dl + t * (R * next) + t * top * (R * B) := by rw [hD]; grind
  have a1 : 0 ≤ t * dl := Int.mul_nonneg ht0 hdl
  have a2 : 0 ≤ t * (R * next) := Int.mul_nonneg ht0 (Int.mul_nonneg (by omega) hnext)
  omega
 have h3 : U < (u2 * B + u1 + 1) * (R * B) := by
  have e : (u2 * B + u1 + 1) * (R * B) = R * (u0 + B * (u1 + B * u2)) + R * (B - u0) := by grind
  have : R * 1 ≤ R * (B - u0) := Int.mul_le_mul_of_nonneg_left (by omega) (by omega)
  omega
 by_cases h : t * top ≤ u2 * B + u1
 ·exact h
 ·exfalso
  have : (u2 * B + u1 + 1) * (R * B) ≤ t * top * (R * B) := Int.mul_le_mul_of_nonneg_right (by omega) (by omega)
  omega
theorem Bf8 {R dl ul top next u0 u1 u2 D U g left : Int} (hR : 0 < R) (hdl : 0 ≤ dl) (hul : ul < R) (hg0 : 0 ≤ g) (hDp : 0 < D)
  (hD : D = dl + R * (next + B * top)) (hU : U = ul + R * (u0 + B * (u1 + B * u2))) (hI : g * top + left = u2 * B + u1) (hc : left * B + u0 < g * next) (ht : U / D ≤ g) : U / D ≤ g - 1 := by
 by_cases e : U / D = g
 ·exfalso
  have h1 : g * D ≤ U := by rw [← e]; exact Int.ediv_mul_le _ (by omega)
  have e2 : g * D = g * dl + R * (g * next + B * (u2 * B + u1 - left)) := by rw [hD, ← hI]; grind
  have a1 : 0 ≤ g * dl := Int.mul_nonneg hg0 hdl
  have e3 : R * (g * next + B * (u2 * B + u1 - left)) = R * (u0 + B * (u1 + B * u2)) + R * (g * next - (left * B + u0)) := by grind
  have : R * 1 ≤ R * (g * next - (left * B + u0)) := Int.mul_le_mul_of_nonneg_left (by omega) (by omega)
  omega
 ·omega
theorem Yg {ds : List Int} {k : Nat} (hl : ds.length = k) (hk : 2 ≤ k) : val ds = val (ds.take (k - 2)) + B ^ (k - 2) * (ds.getD (k - 2) 0 + B * ds.getD (k - 1) 0) := by
 have e1 := val_at ds (k - 2) (by omega)
 have e2 : ds.drop (k - 2 + 1) = [ds.getD (k - 1) 0] := by
  rw [show k - 2 + 1 = k - 1 from by omega, List.drop_eq_getElem_cons (by omega), List.drop_eq_nil_of_le (by omega), List.getD_eq_getElem?_getD, List.getElem?_eq_getElem (by omega)]
  rfl
 rw [e1, e2, Ds]
 simp only [List.getD_eq_getElem?_getD]
theorem Yh {zs : List Int} {k : Nat} (hl : zs.length = k + 1) (hk : 2 ≤ k) : val zs = val (zs.take (k - 2)) + B ^ (k - 2) * (zs.getD (k - 2) 0 + B * (zs.getD (k - 1) 0 + B * zs.getD k 0)) := by
 have e1 := val_at zs (k - 2) (by omega)
 have e2 : zs.drop (k - 2 + 1) = [zs.getD (k - 1) 0, zs.getD k 0] := by
  rw [show k - 2 + 1 = k - 1 from by omega, List.drop_eq_getElem_cons (by omega), show k - 1 + 1 = k from by omega, List.drop_eq_getElem_cons (by omega), List.drop_eq_nil_of_le (by omega)]
  simp only [List.getD_eq_getElem?_getD, List.getElem?_eq_getElem (show k - 1 < zs.length by omega), List.getElem?_eq_getElem (show k < zs.length by omega)]
  rfl
 rw [e1, e2, val_cons, Ds]
 simp only [List.getD_eq_getElem?_getD]
theorem Mb {ds : List Int} {i : Nat} (hi : i < ds.length) : val (ds.take (i + 1)) = val (ds.take i) + B ^ i * ds.getD i 0 := by
 rw [Dd (xs := ds) (k := i + 1) (by omega) (by omega), Nat.add_sub_cancel, val_append, List.length_take, Nat.min_eq_left (by omega), List.getD_eq_getElem?_getD]
 simp [val]
theorem Bbp {V : Int} {ds zs : List Int} {i : Nat} {G cy s cy' : Int} (hl : i < zs.length) (hi : i < ds.length) (hv : val zs - cy * B ^ i = V - G * val (ds.take i))
  (hs : s - B * cy' = zs.getD i 0 - G * ds.getD i 0 - cy) : val (zs.set i s) - cy' * B ^ (i + 1) = V - G * val (ds.take (i + 1)) := by
 rw [val_set _ _ _ hl, Mb hi, Int.pow_succ]
 have e : s = zs.getD i 0 - G * ds.getD i 0 - cy + B * cy' := by omega
 rw [e]
 generalize zs.getD i 0 = z at *
 generalize ds.getD i 0 = d at *
 generalize B ^ i = p at *
 grind
theorem Bbn {V : Int} {zs : List Int} {k : Nat} {cy s cy' : Int} (hl : k < zs.length) (hv : val zs - cy * B ^ k = V) (hs : s - B * cy' = zs.getD k 0 - cy) : val (zs.set k s) - cy' * B ^ (k + 1) = V := by
 rw [val_set _ _ _ hl, Int.pow_succ]
 have e : s = zs.getD k 0 - cy + B * cy' := by omega
 rw [e, ← hv]
 generalize zs.getD k 0 = z at *
 generalize B ^ k = p at *
 grind
theorem Bb9 {V : Int} {ds zs : List Int} {i : Nat} {cy s cy' : Int} (hl : i < zs.length) (hi : i < ds.length) (hv : val zs + cy * B ^ i = V + val (ds.take i))
  (hs : s + B * cy' = zs.getD i 0 + ds.getD i 0 + cy) : val (zs.set i s) + cy' * B ^ (i + 1) = V + val (ds.take (i + 1)) := by
 rw [val_set _ _ _ hl, Mb hi, Int.pow_succ]
 have e : s = zs.getD i 0 + ds.getD i 0 + cy - B * cy' := by omega
 rw [e]
 generalize zs.getD i 0 = z at *
 generalize ds.getD i 0 = d at *
 generalize B ^ i = p at *
 grind
theorem Bb8 {V : Int} {zs : List Int} {k : Nat} {cy s cy' : Int} (hl : k < zs.length) (hv : val zs + cy * B ^ k = V) (hs : s + B * cy' = zs.getD k 0 + cy) : val (zs.set k s) + cy' * B ^ (k + 1) = V := by
 rw [val_set _ _ _ hl, Int.pow_succ]
 have e : s = zs.getD k 0 + cy - B * cy' := by omega
 rw [e, ← hv]
 generalize zs.getD k 0 = z at *
 generalize B ^ k = p at *
 grind
theorem Bbo {zs : List Int} {k : Nat} {U D g : Int} (hw : Wf zs) (hl : zs.length = k + 1) (hD : 0 < D) (hv : val zs - 1 * B ^ (k + 1) = U - g * D) : U / D ≤ g - 1 := by
 have h1 := val_lt hw
 rw [hl] at h1
 have h2 : U < g * D := by omega
 have := Int.ediv_lt_of_lt_mul hD h2
 omega
theorem Bbm {zs : List Int} {k : Nat} {U D g : Int} (hw : Wf zs) (hD : 0 < D) (hv : val zs - 0 * B ^ (k + 1) = U - g * D) (ht : U / D ≤ g) : g = U / D ∧ val zs = U - U / D * D := by
 have h1 := val_nonneg hw
 rw [Int.zero_mul, Int.sub_zero] at hv
 have h2 : g ≤ U / D := Int.le_ediv_of_mul_le hD (by omega)
 obtain rfl : g = U / D := by omega
 exact ⟨rfl, hv⟩
theorem Kx {S Z' : List Int} {i k : Nat} {V D N : Int} (hw : Wf S) (hl : i + k + 1 ≤ S.length) (hD : 0 < D) (hDk : D < B ^ k)
  (hv : val S + B ^ (i + 1) * V * D = N) (hb : val (S.drop (i + 1)) < D)
  (hz : val Z' = val ((S.drop i).take (k + 1)) - val ((S.drop i).take (k + 1)) / D * D) :
  val (S.take i ++ Z' ++ S.drop (i + k + 1)) + B ^ i * (val ((S.drop i).take (k + 1)) / D + B * V) * D = N ∧ val ((S.take i ++ Z' ++ S.drop (i + k + 1)).drop i) < D := by
 have t0 : val (S.drop (i + k + 1)) = 0 := by
  have e : S.drop (i + k + 1) = (S.drop (i + 1)).drop k := by rw [List.drop_drop]; congr 1; omega
  rw [e, val_drop (hw.drop _)]
  exact Int.ediv_eq_zero_of_lt (val_nonneg (hw.drop _)) (by omega)
 have e1 : val (S.drop i) = val ((S.drop i).take (k + 1)) := by
  rw [val_take_drop (S.drop i) (k + 1) (by rw [List.length_drop]; omega), List.drop_drop, show i + (k + 1) = i + k + 1 from by omega, t0]
  omega
 have e2 := val_take_drop S i (by omega)
 have li : (S.take i).length = i := by rw [List.length_take]; omega
 have e3 : val (S.take i ++ Z' ++ S.drop (i + k + 1)) = val (S.take i) + B ^ i * val Z' := by
  rw [val_append, val_append, t0, li]; omega
 constructor
 ·rw [e3, hz, ← hv, e2, e1, Int.pow_succ]
  generalize val ((S.drop i).take (k + 1)) = z
  generalize z / D = t
  generalize B ^ i = p
  grind
 ·have e4 : (S.take i ++ Z' ++ S.drop (i + k + 1)).drop i = Z' ++ S.drop (i + k + 1) := by
   rw [List.append_assoc, List.drop_append_of_le_length (by omega), List.drop_eq_nil_of_le (by omega), List.nil_append]
  rw [e4, val_append, t0, Int.mul_zero, Int.add_zero, hz]
  have := Int.emod_lt_of_pos (val ((S.drop i).take (k + 1))) hD
  rw [Int.emod_def, Int.mul_comm] at this
  exact this
theorem kn_lt {S : List Int} {i k : Nat} {D : Int} (hw : Wf S) (hl : i + k + 1 ≤ S.length) (hb : val (S.drop (i + 1)) < D) : val ((S.drop i).take (k + 1)) / D ≤ B - 1 ∧ 0 ≤ val ((S.drop i).take (k + 1)) / D := by
 have hn := val_nonneg (hw.drop (i + 1))
 have hle : val ((S.drop i).take (k + 1)) ≤ val (S.drop i) := by
  have h := val_take_drop (S.drop i) (k + 1) (by rw [List.length_drop]; omega)
  have h2 : 0 ≤ B ^ (k + 1) * val ((S.drop i).drop (k + 1)) := Int.mul_nonneg (Int.le_of_lt (B_pow_pos _)) (val_nonneg ((hw.drop _).drop _))
  omega
 have e : val (S.drop i) = S.getD i 0 + B * val (S.drop (i + 1)) := by
  rw [List.drop_eq_getElem_cons (by omega), val_cons, List.getD_eq_getElem?_getD, List.getElem?_eq_getElem (by omega)]
  rfl
 have hx := hw.getD i
 have h1 : val ((S.drop i).take (k + 1)) / D < B := by
  apply Int.ediv_lt_of_lt_mul (by omega)
  have : B * val (S.drop (i + 1)) ≤ B * (D - 1) := Int.mul_le_mul_of_nonneg_left (by omega) (Int.le_of_lt B_pos)
  have e3 : B * (D - 1) = B * D - B := by grind
  rw [B_eq] at *
  omega
 exact ⟨by omega, Int.ediv_nonneg (val_nonneg ((hw.drop _).take _)) (by omega)⟩
theorem Bdb {X Y : Int} {n k s : Nat} {S : List Int} (hw : Wf S) (hS : val S = X * pw s) (hX : X < B ^ n) (hk : 1 ≤ k) (hkn : k ≤ n) (hY : B ^ (k - 1) ≤ Y) : val (S.drop (n - k + 1)) < Y * pw s := by
 rw [val_drop hw, hS]
 apply Int.ediv_lt_of_lt_mul (B_pow_pos _)
 have e : B ^ n = B ^ (k - 1) * B ^ (n - k + 1) := by rw [← Int.pow_add]; congr 1; omega
 have h1 : X * pw s < B ^ n * pw s := Int.mul_lt_mul_of_pos_right hX (pw_pos s)
 have h2 : B ^ (k - 1) * (B ^ (n - k + 1) * pw s) ≤ Y * (B ^ (n - k + 1) * pw s) := Int.mul_le_mul_of_nonneg_right hY (Int.le_of_lt (Int.mul_pos (B_pow_pos _) (pw_pos s)))
 have e2 : B ^ n * pw s = B ^ (k - 1) * (B ^ (n - k + 1) * pw s) := by rw [e]; grind
 have e3 : Y * pw s * B ^ (n - k + 1) = Y * (B ^ (n - k + 1) * pw s) := by grind
 omega
theorem Bgu {S Qs : List Int} {X Y N D : Int} {s : Nat} (hw : Wf S) (hY : 0 < Y) (hD : D = Y * pw s) (hN : N = X * pw s) (hv : val S + B ^ 0 * val (Qs.drop 0) * D = N) (hb : val (S.drop 0) < D) :
  val Qs = X / Y ∧ val S / pw s = X % Y := by
 rw [List.drop_zero] at hb hv
 rw [Int.pow_zero, Int.one_mul] at hv
 have hp := pw_pos s
 have h0 := val_nonneg hw
 have hDp : 0 < D := by rw [hD]; exact Int.mul_pos hY hp
 have e1 : N / D = val Qs := by
  rw [← hv, Int.add_mul_ediv_right _ _ (by omega), Int.ediv_eq_zero_of_lt h0 hb, Int.zero_add]
 have e2 : N % D = val S := by
  rw [← hv, Int.add_mul_emod_self_right, Int.emod_eq_of_lt h0 hb]
 rw [hN, hD] at e1 e2
 rw [Int.mul_ediv_mul_of_pos_left _ _ hp] at e1
 rw [Int.mul_comm X, Int.mul_comm Y, Int.mul_emod_mul_of_pos _ _ hp] at e2
 exact ⟨e1.symm, by rw [← e2]; exact Int.mul_ediv_cancel_left _ (by omega)⟩
theorem Dk {x : Int} (h0 : 0 ≤ x) (h1 : x < 18446744073709551616) : IntKind.u64.wrap x = x := by rw [IntKind.wrap_u64]; omega
theorem Zx {x : Int} (h0 : 0 ≤ x) (h1 : x < 18446744073709551616) : bits .and .u64 x 4294967295 = x % 4294967296 := by
 obtain ⟨n, rfl⟩ := Int.eq_ofNat_of_zero_le h0
 have := bits_and_u64_nat n 4294967295 (by omega) (by omega)
 have e : ((4294967295 : Nat) : Int) = 4294967295 := rfl
 rw [e] at this
 rw [this, show (4294967295 : Nat) = 2 ^ 32 - 1 from rfl, Nat.and_two_pow_sub_one_eq_mod]
 simp
theorem Bdm {x y : Int} {r : Nat} (hr : r < 64) (hx0 : 0 ≤ x) (hy0 : 0 ≤ y) (hy : y < 18446744073709551616) :
  bits .or .u64 (IntKind.u64.wrap (x * 2 ^ r)) (y / 2 ^ (64 - r)) = x * pw r % B + y / pw (64 - r) := by
 have hq := pw_pos (64 - r)
 have h1 : 0 ≤ y / pw (64 - r) := Int.ediv_nonneg hy0 (by omega)
 have h2 : y / pw (64 - r) < pw r := Int.ediv_lt_of_lt_mul hq (by rw [← B_split (by omega), B_eq]; exact hy)
 have h3 := Zd (x := x) (c := y / pw (64 - r)) hr hx0 h1 h2
 have h4 : y / pw (64 - r) < 18446744073709551616 := Int.lt_of_le_of_lt (Int.ediv_le_self _ hy0) hy
 have h5 : 0 ≤ IntKind.u64.wrap (x * 2 ^ r) ∧ IntKind.u64.wrap (x * 2 ^ r) < 18446744073709551616 := by rw [IntKind.wrap_u64]; omega
 have hc : bits .or .u64 (IntKind.u64.wrap (x * 2 ^ r)) (y / pw (64 - r)) = bits .or .u64 (y / pw (64 - r)) (IntKind.u64.wrap (x * 2 ^ r)) := by
  generalize y / pw (64 - r) = p at *
  generalize IntKind.u64.wrap (x * 2 ^ r) = q at *
  obtain ⟨a, rfl⟩ := Int.eq_ofNat_of_zero_le h1
  obtain ⟨b, rfl⟩ := Int.eq_ofNat_of_zero_le h5.1
  rw [bits_or_u64_nat _ _ (by omega) (by omega), bits_or_u64_nat _ _ (by omega) (by omega), Nat.or_comm]
 show bits .or .u64 (IntKind.u64.wrap (x * 2 ^ r)) (y / pw (64 - r)) = _
 rw [hc, h3]; omega
theorem Wn {hi lo y : Int} (h0 : 0 < hi) (hl0 : 0 ≤ lo) (hl : lo < 18446744073709551616) (hy : hi < y) (hy' : y < 18446744073709551616) {s : Nat} (hs : (64 : Int) - Lib.bitLen y.toNat = s) :
  s < 64 ∧ ∃ Y u v : Int, IntKind.u64.wrap (y * 2 ^ s) = Y ∧ 9223372036854775808 ≤ Y ∧ Y < 18446744073709551616 ∧ Y = y * pw s ∧ bits .or .u64 (IntKind.u64.wrap (hi * 2 ^ s)) (lo / 2 ^ (64 - s)) = u ∧ 0 ≤ u ∧ u < Y ∧
   IntKind.u64.wrap (lo * 2 ^ s) = v ∧ 0 ≤ v ∧ v < 18446744073709551616 ∧ u * 18446744073709551616 + v = (hi * 18446744073709551616 + lo) * pw s := by
 have hb := Ki (x := y) (by omega) hy'
 rw [← hb] at hs
 obtain ⟨a, ea, a0, a1⟩ := Gz (v := y) (by omega)
 have ha : a < 64 := by
  have : pw a < pw 64 := by rw [← B_pw, B_eq]; omega
  exact pw_lt_iff.1 this
 have es : s = 63 - a := by omega
 have hs64 : s < 64 := by omega
 have hp := pw_pos s
 have k1 : pw a * pw s ≤ y * pw s := Int.mul_le_mul_of_nonneg_right a0 (by omega)
 have k2 : y * pw s < pw (a + 1) * pw s := Int.mul_lt_mul_of_pos_right a1 hp
 rw [← pw_add, show a + s = 63 from by omega] at k1
 rw [← pw_add, show a + 1 + s = 64 from by omega, ← B_pw, B_eq] at k2
 have e63 : pw 63 = 9223372036854775808 := by decide
 rw [e63] at k1
 have k3 : hi * pw s ≤ (y - 1) * pw s := Int.mul_le_mul_of_nonneg_right (by omega) (by omega)
 have k4 : (y - 1) * pw s = y * pw s - pw s := by grind
 have k5 : 0 ≤ hi * pw s := Int.mul_nonneg (by omega) (by omega)
 have o := Bdm (x := hi) (y := lo) hs64 (by omega) hl0 hl
 have lw := Tk (x := lo) (r := s) (by omega)
 have l0 : 0 ≤ lo / pw (64 - s) := Int.ediv_nonneg hl0 (Int.le_of_lt (pw_pos _))
 have l1 : lo / pw (64 - s) < pw s := Int.ediv_lt_of_lt_mul (pw_pos _) (by rw [← B_split (by omega), B_eq]; exact hl)
 have m0 : hi * pw s % B = hi * pw s := Int.emod_eq_of_lt k5 (by rw [B_eq]; omega)
 rw [m0] at o
 refine ⟨hs64, y * pw s, hi * pw s + lo / pw (64 - s), lo * pw s % B, Dk (x := y * 2 ^ s) (by show 0 ≤ y * pw s; omega) (by show y * pw s < _; omega), by omega, by omega, rfl, o, by omega, by omega, ?_, ?_, ?_, ?_⟩
 ·rw [IntKind.wrap_u64, B_eq]; rfl
 ·rw [B_eq]; omega
 ·rw [B_eq]; omega
 ·have e1 : (hi * 18446744073709551616 + lo) * pw s = hi * pw s * 18446744073709551616 + lo * pw s := by grind
  rw [e1, lw, B_eq]; omega
theorem St {u v Y : Int} (hu : 0 ≤ u) (hv' : v < 4294967296) (hY : 9223372036854775808 ≤ Y) : (u * 4294967296 + v) / Y ≤ u / (Y / 4294967296) := by
 have hy1 : 0 < Y / 4294967296 := by omega
 by_cases hneg : (u * 4294967296 + v) / Y < 0
 ·have := Int.ediv_nonneg hu (Int.le_of_lt hy1); omega
 apply Int.le_ediv_of_mul_le hy1
 have h1 := Int.ediv_mul_le (u * 4294967296 + v) (b := Y) (by omega)
 have h2 : (u * 4294967296 + v) / Y * (Y / 4294967296 * 4294967296) ≤ (u * 4294967296 + v) / Y * Y := Int.mul_le_mul_of_nonneg_left (by omega) (by omega)
 generalize (u * 4294967296 + v) / Y = t at *
 generalize Y / 4294967296 = y1 at *
 rw [← Int.mul_assoc] at h2
 omega
theorem Yt {hi lo y u v Y t m t0 n : Int} {s : Nat} (hy : 0 < y) (hY : Y = y * pw s) (hN : u * 18446744073709551616 + v = (hi * 18446744073709551616 + lo) * pw s)
  (ht : t = (u * 4294967296 + v / 4294967296) / Y) (hm : m = (u * 4294967296 + v / 4294967296) % Y) (ht0 : t0 = (m * 4294967296 + v % 4294967296) / Y) (hn : n = m * 4294967296 + v % 4294967296 - t0 * Y) :
  t * 4294967296 + t0 = (hi * 18446744073709551616 + lo) / y ∧ n / 2 ^ s = (hi * 18446744073709551616 + lo) % y := by
 have hp := pw_pos s
 have hYp : 0 < Y := by rw [hY]; exact Int.mul_pos hy hp
 have e1 : (hi * 18446744073709551616 + lo) * pw s = (u * 4294967296 + v / 4294967296) * 4294967296 + v % 4294967296 := by rw [← hN]; omega
 have d := Uz (u * 4294967296 + v / 4294967296) (v % 4294967296) 4294967296 hYp
 have d2 := Vf (u * 4294967296 + v / 4294967296) (v % 4294967296) 4294967296 Y
 rw [← ht, ← hm, ← ht0, ← e1] at d
 rw [← hm, ← e1] at d2
 have e2 : n = (m * 4294967296 + v % 4294967296) % Y := by rw [hn, Int.emod_def (m * 4294967296 + v % 4294967296) Y, ← ht0, Int.mul_comm Y]
 rw [hY, Int.mul_ediv_mul_of_pos_left _ _ hp] at d
 rw [← e2, hY, Int.mul_comm _ (pw s), Int.mul_comm y, Int.mul_emod_mul_of_pos _ _ hp] at d2
 refine ⟨d.symm, ?_⟩
 rw [← d2]
 exact Int.mul_ediv_cancel_left _ (Int.ne_of_gt hp)
theorem div64 (hi lo y : Int) (w : World) (h0 : 0 < hi) (hl0 : 0 ≤ lo) (hl : lo < 18446744073709551616) (hy : hi < y) (hy' : y < 18446744073709551616) :
  Calls Tryz.prog 130 #[.int .u64 hi, .int .u64 lo, .int .u64 y] w fun e w' => e = .returned (.tuple #[.int .u64 ((hi * 18446744073709551616 + lo) / y), .int .u64 ((hi * 18446744073709551616 + lo) % y)]) ∧ Still w w' := by
 have d1 : (y == 0) = false := beq_eq_false_iff_ne.2 (by omega)
 have d2 : decide (y ≤ hi) = false := by simp; omega
 have d3 : (hi == 0) = false := beq_eq_false_iff_ne.2 (by omega)
 have L := Yy y w (by omega) hy'
 obtain ⟨s, hs⟩ : ∃ s : Nat, (64 : Int) - Lib.bitLen y.toNat = s := ⟨64 - Lib.bitLen y.toNat, by
  have := Ki (x := y) (by omega) hy'
  have h2 := Gc (v := y) (a := 64) (by omega) (by rw [← B_pw, B_eq]; exact hy')
  omega⟩
 obtain ⟨s64, Y, u, v, eY, Y0, Y1, eY2, eu, u0, u1, ev, v0', v1', hN⟩ := Wn h0 hl0 hl hy hy' hs
 rw [hs] at L
 have hT : ∃ t m t0 n : Int, t = (u * 4294967296 + v / 4294967296) / Y ∧ m = (u * 4294967296 + v / 4294967296) % Y ∧ t0 = (m * 4294967296 + v % 4294967296) / Y ∧ n = m * 4294967296 + v % 4294967296 - t0 * Y := ⟨_, _, _, _, rfl, rfl, rfl, rfl⟩
 obtain ⟨t, m, t0, n, et, em, et0, en⟩ := hT
 have hdone := Yt (by omega) eY2 hN et em et0 en
 have hm0 : 0 ≤ m ∧ m < Y := by rw [em]; exact ⟨Int.emod_nonneg _ (by omega), Int.emod_lt_of_pos _ (by omega)⟩
 have hm1 : u * 4294967296 + v / 4294967296 - t * Y = m := by rw [em, et, Int.emod_def, Int.mul_comm Y]
 have hn0 : 0 ≤ n ∧ n < Y := by
  have e2 : n = (m * 4294967296 + v % 4294967296) % Y := by rw [en, Int.emod_def (m * 4294967296 + v % 4294967296) Y, ← et0, Int.mul_comm Y]
  rw [e2]; exact ⟨Int.emod_nonneg _ (by omega), Int.emod_lt_of_pos _ (by omega)⟩
 have hs1 := St (u := u) (v := v / 4294967296) (Y := Y) u0 (by omega) Y0
 have hs2 := St (u := m) (v := v % 4294967296) (Y := Y) hm0.1 (by omega) Y0
 rw [← et] at hs1
 rw [← et0] at hs2
 have t_lt : t < 4294967296 ∧ 0 ≤ t := by rw [et]; exact ⟨Int.ediv_lt_of_lt_mul (by omega) (by omega), Int.ediv_nonneg (by omega) (by omega)⟩
 have t0_lt : t0 < 4294967296 ∧ 0 ≤ t0 := by rw [et0]; exact ⟨Int.ediv_lt_of_lt_mul (by omega) (by omega), Int.ediv_nonneg (by omega) (by omega)⟩
 have eb0 := Zx (x := Y) (by omega) (by omega)
 have ec0 := Zx (x := v) (by omega) (by omega)
 have eYY : Y = Y / 4294967296 * 4294967296 + Y % 4294967296 := by omega
 have y0b : 0 ≤ Y % 4294967296 ∧ Y % 4294967296 < 4294967296 := by omega
 have y1b : 2147483648 ≤ Y / 4294967296 ∧ Y / 4294967296 < 4294967296 := by omega
 have v0b : 0 ≤ v % 4294967296 ∧ v % 4294967296 < 4294967296 := by omega
 have v1b : 0 ≤ v / 4294967296 ∧ v / 4294967296 < 4294967296 := by omega
 have q1b : 0 ≤ u / (Y / 4294967296) ∧ u / (Y / 4294967296) ≤ u := ⟨Int.ediv_nonneg u0 (by omega), Int.ediv_le_self _ u0⟩
 have q0b : 0 ≤ m / (Y / 4294967296) ∧ m / (Y / 4294967296) ≤ m := ⟨Int.ediv_nonneg hm0.1 (by omega), Int.ediv_le_self _ hm0.1⟩
 have q1t : u.tdiv (Y / 4294967296) = u / (Y / 4294967296) := Int.tdiv_eq_ediv_of_nonneg u0
 have q0t : m.tdiv (Y / 4294967296) = m / (Y / 4294967296) := Int.tdiv_eq_ediv_of_nonneg hm0.1
 have q1e : u / (Y / 4294967296) * (Y / 4294967296) + u % (Y / 4294967296) = u := by rw [Int.mul_comm]; exact Int.mul_ediv_add_emod _ _
 have q0e : m / (Y / 4294967296) * (Y / 4294967296) + m % (Y / 4294967296) = m := by rw [Int.mul_comm]; exact Int.mul_ediv_add_emod _ _
 have r1b : 0 ≤ u % (Y / 4294967296) ∧ u % (Y / 4294967296) < Y / 4294967296 := ⟨Int.emod_nonneg _ (by omega), Int.emod_lt_of_pos _ (by omega)⟩
 have r0b : 0 ≤ m % (Y / 4294967296) ∧ m % (Y / 4294967296) < Y / 4294967296 := ⟨Int.emod_nonneg _ (by omega), Int.emod_lt_of_pos _ (by omega)⟩
 generalize hy1e : Y / 4294967296 = y1 at *
 generalize hy0e : Y % 4294967296 = y0 at *
 generalize hv1e : v / 4294967296 = v1 at *
 generalize hv0e : v % 4294967296 = v0 at *
 generalize u / y1 = q1 at *
 generalize u % y1 = r1 at *
 generalize m / y1 = q0 at *
 generalize m % y1 = r0 at *
 have p1 : 0 ≤ q1 * y1 := Int.mul_nonneg q1b.1 (by omega)
 have p0 : 0 ≤ q0 * y1 := Int.mul_nonneg q0b.1 (by omega)
 have w1 := Dk (x := q1) q1b.1 (by omega)
 have w2 := Dk (x := q1 * y1) (by omega) (by omega)
 have w3 : u - q1 * y1 = r1 := by omega
 have w5 := Dk (x := q0) q0b.1 (by omega)
 have w6 := Dk (x := q0 * y1) (by omega) (by omega)
 have w7 : m - q0 * y1 = r0 := by omega
 have ET := Be et
 have ET0 := Be et0
 have HM := Be hm1
 have HNn := Be en
 have HS1 := Be hs1
 have HS2 := Be hs2
 have Q1 := Be q1e
 have Q0 := Be q0e
 have HYY := Be eYY
 clear et et0 em hm1 en hs1 hs2 q1e q0e eYY hN eY2 hs
 go_enter Tryz.func130, Tryz.ntmps130
 go_wp2_with fail
 refine L.mono ?_; rintro r w' ⟨rfl, rfl⟩
 go_wp2_with fail
 have HDN := Be hdone
 clear hdone
 go_loop [15, 16] (fun vq vr => ∃ q r : Int, vq = .int .u64 q ∧ vr = .int .u64 r ∧ 0 ≤ q ∧ q < 18446744073709551616 ∧ 0 ≤ r ∧ r < 4294967296 ∧ Hid (q * y1 + r = u) ∧ Hid (t ≤ q)) (fun vq _ => (intOf vq).toNat)
 case atStart => exact ⟨q1, r1, rfl, rfl, q1b.1, by omega, r1b.1, by omega, Q1.out, HS1.out⟩
 case round =>
  obtain ⟨p, o, rfl, rfl, pb0, pb1, ob0, ob1, hI2, ht2⟩ := hrel
  have hyy := HYY.out
  have nx : ∀ (_ : 4294967296 ≤ p ∨ 4294967296 * o + v1 < p * y0), t ≤ p - 1 := fun hc => Li (y1 := y1) (y0 := y0) v1b.2 (by omega) (by omega) hI2.out (by rw [← hyy]; exact ET.out) ht2.out hc
  have bk : ∀ (_ : t ≤ p - 1) (_ : 4294967296 ≤ o + y1), p - 1 = t := fun h1 h2 => Jz (y1 := y1) (y0 := y0) (by omega) y0b.1 y0b.2 v1b.1 (by omega) (by have := hI2.out; grind : (p - 1) * y1 + (o + y1) = u) (by rw [← hyy]; exact ET.out) h1 h2
  have en : p * y0 ≤ 4294967296 * o + v1 → p = t := fun hc => Kw (y1 := y1) (y0 := y0) (by omega) hI2.out (by rw [← hyy]; exact ET.out) ht2.out hc
  have nI : (p - 1) * y1 + (o + y1) = u := by have := hI2.out; grind
  have NI := Be nI
  clear nI hyy
  by_cases g1 : 4294967296 ≤ p
  ·have hn := nx (.inl g1)
   have dd : decide (p ≥ 4294967296) = true := by simp; omega
   have bk := bk hn
   have HB := Be bk
   have HN2 := Be hn
   have hq2 : 1 ≤ p := by omega
   clear nx bk en hn
   by_cases g2 : 4294967296 ≤ o + y1
   ·have EE : Hid (p - 1 = t) := HB.out g2
    have pb : 0 ≤ p - 1 ∧ p - 1 < 4294967296 := by have := EE.out; omega
    (have z0 : IntKind.u64.wrap (IntKind.u64.wrap (IntKind.u64.wrap (u * 4294967296) + v1) - IntKind.u64.wrap ((p - 1) * Y)) = m := (by rw [IntKind.wrap_u64, IntKind.wrap_u64, IntKind.wrap_u64, IntKind.wrap_u64]; have h1 := HM.out; have h2 := EE.out; rw [h2]; omega); go_wp2_with fail; go_loop [18, 16] (fun vq vr => ∃ q r : Int, vq = .int .u64 q ∧ vr = .int .u64 r ∧ 0 ≤ q ∧ q < 18446744073709551616 ∧ 0 ≤ r ∧ r < 4294967296 ∧ Hid (q * y1 + r = m) ∧ Hid (t0 ≤ q)) (fun vq _ => (intOf vq).toNat); (case atStart => exact ⟨q0, r0, rfl, rfl, q0b.1, by omega, r0b.1, by omega, Q0.out, HS2.out⟩); (case round => obtain ⟨q, r, rfl, rfl, qb0, qb1, rb0, rb1, hI2, ht2⟩ := hrel; (have hyy := HYY.out; have nx : ∀ (_ : 4294967296 ≤ q ∨ 4294967296 * r + v0 < q * y0), t0 ≤ q - 1 := (fun hc => Li (y1 := y1) (y0 := y0) v0b.2 (by omega) (by omega) hI2.out (by rw [← hyy]; exact ET0.out) ht2.out hc); have bk : ∀ (_ : t0 ≤ q - 1) (_ : 4294967296 ≤ r + y1), q - 1 = t0 := (fun h1 h2 => Jz (y1 := y1) (y0 := y0) (by omega) y0b.1 y0b.2 v0b.1 (by omega) (by have := hI2.out; grind : (q - 1) * y1 + (r + y1) = m) (by rw [← hyy]; exact ET0.out) h1 h2); have en : q * y0 ≤ 4294967296 * r + v0 → q = t0 := (fun hc => Kw (y1 := y1) (y0 := y0) (by omega) hI2.out (by rw [← hyy]; exact ET0.out) ht2.out hc); have nI : (q - 1) * y1 + (r + y1) = m := (by have := hI2.out; grind); have NI := Be nI; clear nI hyy; by_cases g1 : 4294967296 ≤ q; (· have hn := nx (.inl g1); have dd : decide (q ≥ 4294967296) = true := (by simp; omega); have bk := bk hn; have HB := Be bk; have HN2 := Be hn; have hq2 : 1 ≤ q := (by omega); clear nx bk en hn; by_cases g2 : 4294967296 ≤ r + y1; (· have EF : Hid (q - 1 = t0) := HB.out g2; have qb : 0 ≤ q - 1 ∧ q - 1 < 4294967296 := (by have := EF.out; omega); (have z1 := Dk (x := (p - 1) * 4294967296) (by omega) (by omega); have z2 := Dk (x := (p - 1) * 4294967296 + (q - 1)) (by omega) (by omega); have z3 : IntKind.u64.wrap (IntKind.u64.wrap (IntKind.u64.wrap (m * 4294967296) + v0) - IntKind.u64.wrap ((q - 1) * Y)) = n := (by rw [IntKind.wrap_u64, IntKind.wrap_u64, IntKind.wrap_u64, IntKind.wrap_u64]; have h1 := HNn.out; have h2 := EF.out; rw [h2]; omega); go_wp2_with fail; go_ret2; exact ⟨by (rw [EE.out, EF.out, HDN.out.1, HDN.out.2]; rfl), Still.refl _⟩)); (· have d5 : decide (r + y1 ≥ 4294967296) = false := (by simp; omega); go_wp2_with fail; exact ⟨⟨q - 1, r + y1, by go_num, by go_num, by omega, by omega, by omega, by omega, NI.out, HN2.out⟩, by simp only [intOf]; omega⟩)); (· have dd : decide (q ≥ 4294967296) = false := (by simp; omega); have p2 : 0 ≤ q * y0 := Int.mul_nonneg qb0 y0b.1; have p3 : q * y0 ≤ 4294967295 * y0 := Int.mul_le_mul_of_nonneg_right (by omega) y0b.1; have p4 := Dk (x := q * y0) p2 (by omega); by_cases g3 : 4294967296 * r + v0 < q * y0; (· have hn := nx (.inr g3); have bk := bk hn; have HB := Be bk; have HN2 := Be hn; have hq2 : 1 ≤ q := (by omega); clear nx bk en hn; by_cases g2 : 4294967296 ≤ r + y1; (· have EF : Hid (q - 1 = t0) := HB.out g2; have qb : 0 ≤ q - 1 ∧ q - 1 < 4294967296 := (by have := EF.out; omega); (have z1 := Dk (x := (p - 1) * 4294967296) (by omega) (by omega); have z2 := Dk (x := (p - 1) * 4294967296 + (q - 1)) (by omega) (by omega); have z3 : IntKind.u64.wrap (IntKind.u64.wrap (IntKind.u64.wrap (m * 4294967296) + v0) - IntKind.u64.wrap ((q - 1) * Y)) = n := (by rw [IntKind.wrap_u64, IntKind.wrap_u64, IntKind.wrap_u64, IntKind.wrap_u64]; have h1 := HNn.out; have h2 := EF.out; rw [h2]; omega); go_wp2_with fail; go_ret2; exact ⟨by (rw [EE.out, EF.out, HDN.out.1, HDN.out.2]; rfl), Still.refl _⟩)); (· have d5 : decide (r + y1 ≥ 4294967296) = false := (by simp; omega); go_wp2_with fail; exact ⟨⟨q - 1, r + y1, by go_num, by go_num, by omega, by omega, by omega, by omega, NI.out, HN2.out⟩, by simp only [intOf]; omega⟩)); (· have EF : Hid (q = t0) := en (by omega); have qb : 0 ≤ q ∧ q < 4294967296 := (by omega); clear nx bk en; (have z1 := Dk (x := (p - 1) * 4294967296) (by omega) (by omega); have z2 := Dk (x := (p - 1) * 4294967296 + (q)) (by omega) (by omega); have z3 : IntKind.u64.wrap (IntKind.u64.wrap (IntKind.u64.wrap (m * 4294967296) + v0) - IntKind.u64.wrap ((q) * Y)) = n := (by rw [IntKind.wrap_u64, IntKind.wrap_u64, IntKind.wrap_u64, IntKind.wrap_u64]; have h1 := HNn.out; have h2 := EF.out; rw [h2]; omega); go_wp2_with fail; go_ret2; exact ⟨by (rw [EE.out, EF.out, HDN.out.1, HDN.out.2]; rfl), Still.refl _⟩))))))
   ·have d5 : decide (o + y1 ≥ 4294967296) = false := by simp; omega
    go_wp2_with fail
    exact ⟨⟨p - 1, o + y1, by go_num, by go_num, by omega, by omega, by omega, by omega, NI.out, HN2.out⟩, by simp only [intOf]; omega⟩
  ·have dd : decide (p ≥ 4294967296) = false := by simp; omega
   have p2 : 0 ≤ p * y0 := Int.mul_nonneg pb0 y0b.1
   have p3 : p * y0 ≤ 4294967295 * y0 := Int.mul_le_mul_of_nonneg_right (by omega) y0b.1
   have p4 := Dk (x := p * y0) p2 (by omega)
   by_cases g3 : 4294967296 * o + v1 < p * y0
   ·have hn := nx (.inr g3)
    have bk := bk hn
    have HB := Be bk
    have HN2 := Be hn
    have hq2 : 1 ≤ p := by omega
    clear nx bk en hn
    by_cases g2 : 4294967296 ≤ o + y1
    ·have EE : Hid (p - 1 = t) := HB.out g2
     have pb : 0 ≤ p - 1 ∧ p - 1 < 4294967296 := by have := EE.out; omega
     (have z0 : IntKind.u64.wrap (IntKind.u64.wrap (IntKind.u64.wrap (u * 4294967296) + v1) - IntKind.u64.wrap ((p - 1) * Y)) = m := (by rw [IntKind.wrap_u64, IntKind.wrap_u64, IntKind.wrap_u64, IntKind.wrap_u64]; have h1 := HM.out; have h2 := EE.out; rw [h2]; omega); go_wp2_with fail; go_loop [18, 16] (fun vq vr => ∃ q r : Int, vq = .int .u64 q ∧ vr = .int .u64 r ∧ 0 ≤ q ∧ q < 18446744073709551616 ∧ 0 ≤ r ∧ r < 4294967296 ∧ Hid (q * y1 + r = m) ∧ Hid (t0 ≤ q)) (fun vq _ => (intOf vq).toNat); (case atStart => exact ⟨q0, r0, rfl, rfl, q0b.1, by omega, r0b.1, by omega, Q0.out, HS2.out⟩); (case round => obtain ⟨q, r, rfl, rfl, qb0, qb1, rb0, rb1, hI2, ht2⟩ := hrel; (have hyy := HYY.out; have nx : ∀ (_ : 4294967296 ≤ q ∨ 4294967296 * r + v0 < q * y0), t0 ≤ q - 1 := (fun hc => Li (y1 := y1) (y0 := y0) v0b.2 (by omega) (by omega) hI2.out (by rw [← hyy]; exact ET0.out) ht2.out hc); have bk : ∀ (_ : t0 ≤ q - 1) (_ : 4294967296 ≤ r + y1), q - 1 = t0 := (fun h1 h2 => Jz (y1 := y1) (y0 := y0) (by omega) y0b.1 y0b.2 v0b.1 (by omega) (by have := hI2.out; grind : (q - 1) * y1 + (r + y1) = m) (by rw [← hyy]; exact ET0.out) h1 h2); have en : q * y0 ≤ 4294967296 * r + v0 → q = t0 := (fun hc => Kw (y1 := y1) (y0 := y0) (by omega) hI2.out (by rw [← hyy]; exact ET0.out) ht2.out hc); have nI : (q - 1) * y1 + (r + y1) = m := (by have := hI2.out; grind); have NI := Be nI; clear nI hyy; by_cases g1 : 4294967296 ≤ q; (· have hn := nx (.inl g1); have dd : decide (q ≥ 4294967296) = true := (by simp; omega); have bk := bk hn; have HB := Be bk; have HN2 := Be hn; have hq2 : 1 ≤ q := (by omega); clear nx bk en hn; by_cases g2 : 4294967296 ≤ r + y1; (· have EF : Hid (q - 1 = t0) := HB.out g2; have qb : 0 ≤ q - 1 ∧ q - 1 < 4294967296 := (by have := EF.out; omega); (have z1 := Dk (x := (p - 1) * 4294967296) (by omega) (by omega); have z2 := Dk (x := (p - 1) * 4294967296 + (q - 1)) (by omega) (by omega); have z3 : IntKind.u64.wrap (IntKind.u64.wrap (IntKind.u64.wrap (m * 4294967296) + v0) - IntKind.u64.wrap ((q - 1) * Y)) = n := (by rw [IntKind.wrap_u64, IntKind.wrap_u64, IntKind.wrap_u64, IntKind.wrap_u64]; have h1 := HNn.out; have h2 := EF.out; rw [h2]; omega); go_wp2_with fail; go_ret2; exact ⟨by (rw [EE.out, EF.out, HDN.out.1, HDN.out.2]; rfl), Still.refl _⟩)); (· have d5 : decide (r + y1 ≥ 4294967296) = false := (by simp; omega); go_wp2_with fail; exact ⟨⟨q - 1, r + y1, by go_num, by go_num, by omega, by omega, by omega, by omega, NI.out, HN2.out⟩, by simp only [intOf]; omega⟩)); (· have dd : decide (q ≥ 4294967296) = false := (by simp; omega); have p2 : 0 ≤ q * y0 := Int.mul_nonneg qb0 y0b.1; have p3 : q * y0 ≤ 4294967295 * y0 := Int.mul_le_mul_of_nonneg_right (by omega) y0b.1; have p4 := Dk (x := q * y0) p2 (by omega); by_cases g3 : 4294967296 * r + v0 < q * y0; (· have hn := nx (.inr g3); have bk := bk hn; have HB := Be bk; have HN2 := Be hn; have hq2 : 1 ≤ q := (by omega); clear nx bk en hn; by_cases g2 : 4294967296 ≤ r + y1; (· have EF : Hid (q - 1 = t0) := HB.out g2; have qb : 0 ≤ q - 1 ∧ q - 1 < 4294967296 := (by have := EF.out; omega); (have z1 := Dk (x := (p - 1) * 4294967296) (by omega) (by omega); have z2 := Dk (x := (p - 1) * 4294967296 + (q - 1)) (by omega) (by omega); have z3 : IntKind.u64.wrap (IntKind.u64.wrap (IntKind.u64.wrap (m * 4294967296) + v0) - IntKind.u64.wrap ((q - 1) * Y)) = n := (by rw [IntKind.wrap_u64, IntKind.wrap_u64, IntKind.wrap_u64, IntKind.wrap_u64]; have h1 := HNn.out; have h2 := EF.out; rw [h2]; omega); go_wp2_with fail; go_ret2; exact ⟨by (rw [EE.out, EF.out, HDN.out.1, HDN.out.2]; rfl), Still.refl _⟩)); (· have d5 : decide (r + y1 ≥ 4294967296) = false := (by simp; omega); go_wp2_with fail; exact ⟨⟨q - 1, r + y1, by go_num, by go_num, by omega, by omega, by omega, by omega, NI.out, HN2.out⟩, by simp only [intOf]; omega⟩)); (· have EF : Hid (q = t0) := en (by omega); have qb : 0 ≤ q ∧ q < 4294967296 := (by omega); clear nx bk en; (have z1 := Dk (x := (p - 1) * 4294967296) (by omega) (by omega); have z2 := Dk (x := (p - 1) * 4294967296 + (q)) (by omega) (by omega); have z3 : IntKind.u64.wrap (IntKind.u64.wrap (IntKind.u64.wrap (m * 4294967296) + v0) - IntKind.u64.wrap ((q) * Y)) = n := (by rw [IntKind.wrap_u64, IntKind.wrap_u64, IntKind.wrap_u64, IntKind.wrap_u64]; have h1 := HNn.out; have h2 := EF.out; rw [h2]; omega); go_wp2_with fail; go_ret2; exact ⟨by (rw [EE.out, EF.out, HDN.out.1, HDN.out.2]; rfl), Still.refl _⟩))))))
    ·have d5 : decide (o + y1 ≥ 4294967296) = false := by simp; omega
     go_wp2_with fail
     exact ⟨⟨p - 1, o + y1, by go_num, by go_num, by omega, by omega, by omega, by omega, NI.out, HN2.out⟩, by simp only [intOf]; omega⟩
   ·have EE : Hid (p = t) := en (by omega)
    have pb : 0 ≤ p ∧ p < 4294967296 := by omega
    clear nx bk en
    (have z0 : IntKind.u64.wrap (IntKind.u64.wrap (IntKind.u64.wrap (u * 4294967296) + v1) - IntKind.u64.wrap ((p) * Y)) = m := (by rw [IntKind.wrap_u64, IntKind.wrap_u64, IntKind.wrap_u64, IntKind.wrap_u64]; have h1 := HM.out; have h2 := EE.out; rw [h2]; omega); go_wp2_with fail; go_loop [18, 16] (fun vq vr => ∃ q r : Int, vq = .int .u64 q ∧ vr = .int .u64 r ∧ 0 ≤ q ∧ q < 18446744073709551616 ∧ 0 ≤ r ∧ r < 4294967296 ∧ Hid (q * y1 + r = m) ∧ Hid (t0 ≤ q)) (fun vq _ => (intOf vq).toNat); (case atStart => exact ⟨q0, r0, rfl, rfl, q0b.1, by omega, r0b.1, by omega, Q0.out, HS2.out⟩); (case round => obtain ⟨q, r, rfl, rfl, qb0, qb1, rb0, rb1, hI2, ht2⟩ := hrel; (have hyy := HYY.out; have nx : ∀ (_ : 4294967296 ≤ q ∨ 4294967296 * r + v0 < q * y0), t0 ≤ q - 1 := (fun hc => Li (y1 := y1) (y0 := y0) v0b.2 (by omega) (by omega) hI2.out (by rw [← hyy]; exact ET0.out) ht2.out hc); have bk : ∀ (_ : t0 ≤ q - 1) (_ : 4294967296 ≤ r + y1), q - 1 = t0 := (fun h1 h2 => Jz (y1 := y1) (y0 := y0) (by omega) y0b.1 y0b.2 v0b.1 (by omega) (by have := hI2.out; grind : (q - 1) * y1 + (r + y1) = m) (by rw [← hyy]; exact ET0.out) h1 h2); have en : q * y0 ≤ 4294967296 * r + v0 → q = t0 := (fun hc => Kw (y1 := y1) (y0 := y0) (by omega) hI2.out (by rw [← hyy]; exact ET0.out) ht2.out hc); have nI : (q - 1) * y1 + (r + y1) = m := (by have := hI2.out; grind); have NI := Be nI; clear nI hyy; by_cases g1 : 4294967296 ≤ q; (· have hn := nx (.inl g1); have dd : decide (q ≥ 4294967296) = true := (by simp; omega); have bk := bk hn; have HB := Be bk; have HN2 := Be hn; have hq2 : 1 ≤ q := (by omega); clear nx bk en hn; by_cases g2 : 4294967296 ≤ r + y1; (· have EF : Hid (q - 1 = t0) := HB.out g2; have qb : 0 ≤ q - 1 ∧ q - 1 < 4294967296 := (by have := EF.out; omega); (have z1 := Dk (x := (p) * 4294967296) (by omega) (by omega); have z2 := Dk (x := (p) * 4294967296 + (q - 1)) (by omega) (by omega); have z3 : IntKind.u64.wrap (IntKind.u64.wrap (IntKind.u64.wrap (m * 4294967296) + v0) - IntKind.u64.wrap ((q - 1) * Y)) = n := (by rw [IntKind.wrap_u64, IntKind.wrap_u64, IntKind.wrap_u64, IntKind.wrap_u64]; have h1 := HNn.out; have h2 := EF.out; rw [h2]; omega); go_wp2_with fail; go_ret2; exact ⟨by (rw [EE.out, EF.out, HDN.out.1, HDN.out.2]; rfl), Still.refl _⟩)); (· have d5 : decide (r + y1 ≥ 4294967296) = false := (by simp; omega); go_wp2_with fail; exact ⟨⟨q - 1, r + y1, by go_num, by go_num, by omega, by omega, by omega, by omega, NI.out, HN2.out⟩, by simp only [intOf]; omega⟩)); (· have dd : decide (q ≥ 4294967296) = false := (by simp; omega); have p2 : 0 ≤ q * y0 := Int.mul_nonneg qb0 y0b.1; have p3 : q * y0 ≤ 4294967295 * y0 := Int.mul_le_mul_of_nonneg_right (by omega) y0b.1; have p4 := Dk (x := q * y0) p2 (by omega); by_cases g3 : 4294967296 * r + v0 < q * y0; (· have hn := nx (.inr g3); have bk := bk hn; have HB := Be bk; have HN2 := Be hn; have hq2 : 1 ≤ q := (by omega); clear nx bk en hn; by_cases g2 : 4294967296 ≤ r + y1; (· have EF : Hid (q - 1 = t0) := HB.out g2; have qb : 0 ≤ q - 1 ∧ q - 1 < 4294967296 := (by have := EF.out; omega); (have z1 := Dk (x := (p) * 4294967296) (by omega) (by omega); have z2 := Dk (x := (p) * 4294967296 + (q - 1)) (by omega) (by omega); have z3 : IntKind.u64.wrap (IntKind.u64.wrap (IntKind.u64.wrap (m * 4294967296) + v0) - IntKind.u64.wrap ((q - 1) * Y)) = n := (by rw [IntKind.wrap_u64, IntKind.wrap_u64, IntKind.wrap_u64, IntKind.wrap_u64]; have h1 := HNn.out; have h2 := EF.out; rw [h2]; omega); go_wp2_with fail; go_ret2; exact ⟨by (rw [EE.out, EF.out, HDN.out.1, HDN.out.2]; rfl), Still.refl _⟩)); (· have d5 : decide (r + y1 ≥ 4294967296) = false := (by simp; omega); go_wp2_with fail; exact ⟨⟨q - 1, r + y1, by go_num, by go_num, by omega, by omega, by omega, by omega, NI.out, HN2.out⟩, by simp only [intOf]; omega⟩)); (· have EF : Hid (q = t0) := en (by omega); have qb : 0 ≤ q ∧ q < 4294967296 := (by omega); clear nx bk en; (have z1 := Dk (x := (p) * 4294967296) (by omega) (by omega); have z2 := Dk (x := (p) * 4294967296 + (q)) (by omega) (by omega); have z3 : IntKind.u64.wrap (IntKind.u64.wrap (IntKind.u64.wrap (m * 4294967296) + v0) - IntKind.u64.wrap ((q) * Y)) = n := (by rw [IntKind.wrap_u64, IntKind.wrap_u64, IntKind.wrap_u64, IntKind.wrap_u64]; have h1 := HNn.out; have h2 := EF.out; rw [h2]; omega); go_wp2_with fail; go_ret2; exact ⟨by (rw [EE.out, EF.out, HDN.out.1, HDN.out.2]; rfl), Still.refl _⟩))))))
end Go.Proofs.YteffemhapnbaeaaGreatDoor
