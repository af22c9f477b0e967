/- math/bits.Div64, whole. -/
import Derived.BigQuiet
import Derived.Test.YtbfnjjnnlbchgaaDoorKn
import Derived.Test.YtbfnjjnnlbchgaaDoorNatL
import Derived.Test.YtbfnjjnnlbchgaaDoorNatC
namespace Go.Proofs.YtbfnjjnnlbchgaaDoor
open Go.RowKit Num
set_option maxRecDepth 100000

theorem u64_is {x : Int} (h0 : 0 ≤ x) (h1 : x < 18446744073709551616) : IntKind.u64.wrap x = x := by rw [IntKind.wrap_u64]; omega
theorem and_low {x : Int} (h0 : 0 ≤ x) (h1 : x < 18446744073709551616) : bits .and .u64 x 4294967295 = x % 4294967296 := by
  obtain ⟨n, rfl⟩ := Int.eq_ofNat_of_zero_le h0
  have := bits_and_u64_nat n 4294967295 (by omega) (by omega)
  have e : ((4294967295 : Nat) : Int) = 4294967295 := rfl
  rw [e] at this
  rw [this, show (4294967295 : Nat) = 2 ^ 32 - 1 from rfl, Nat.and_two_pow_sub_one_eq_mod]
  simp
theorem or_back2 {x y : Int} {r : Nat} (hr : r < 64) (hx0 : 0 ≤ x) (hy0 : 0 ≤ y) (hy : y < 18446744073709551616) :
    bits .or .u64 (IntKind.u64.wrap (x * 2 ^ r)) (y / 2 ^ (64 - r)) = x * pw r % B + y / pw (64 - r) := by
  have hq := pw_pos (64 - r)
  have h1 : 0 ≤ y / pw (64 - r) := Int.ediv_nonneg hy0 (by omega)
  have h2 : y / pw (64 - r) < pw r := Int.ediv_lt_of_lt_mul hq (by rw [← B_split (by omega), B_eq]; exact hy)
  have h3 := or_shl (x := x) (c := y / pw (64 - r)) hr hx0 h1 h2
  have h4 : y / pw (64 - r) < 18446744073709551616 := Int.lt_of_le_of_lt (Int.ediv_le_self _ hy0) hy
  have h5 : 0 ≤ IntKind.u64.wrap (x * 2 ^ r) ∧ IntKind.u64.wrap (x * 2 ^ r) < 18446744073709551616 := by rw [IntKind.wrap_u64]; omega
  have hc : bits .or .u64 (IntKind.u64.wrap (x * 2 ^ r)) (y / pw (64 - r)) = bits .or .u64 (y / pw (64 - r)) (IntKind.u64.wrap (x * 2 ^ r)) := by
    generalize y / pw (64 - r) = p at *
    generalize IntKind.u64.wrap (x * 2 ^ r) = q at *
    obtain ⟨a, rfl⟩ := Int.eq_ofNat_of_zero_le h1
    obtain ⟨b, rfl⟩ := Int.eq_ofNat_of_zero_le h5.1
    rw [bits_or_u64_nat _ _ (by omega) (by omega), bits_or_u64_nat _ _ (by omega) (by omega), Nat.or_comm]
  show bits .or .u64 (IntKind.u64.wrap (x * 2 ^ r)) (y / pw (64 - r)) = _
  rw [hc, h3]; omega
theorem div64_setup {hi lo y : Int} (h0 : 0 < hi) (hl0 : 0 ≤ lo) (hl : lo < 18446744073709551616) (hy : hi < y) (hy' : y < 18446744073709551616) {s : Nat} (hs : (64 : Int) - Lib.bitLen y.toNat = s) :
    s < 64 ∧ ∃ Y u v : Int, IntKind.u64.wrap (y * 2 ^ s) = Y ∧ 9223372036854775808 ≤ Y ∧ Y < 18446744073709551616 ∧ Y = y * pw s ∧ bits .or .u64 (IntKind.u64.wrap (hi * 2 ^ s)) (lo / 2 ^ (64 - s)) = u ∧ 0 ≤ u ∧ u < Y ∧
      IntKind.u64.wrap (lo * 2 ^ s) = v ∧ 0 ≤ v ∧ v < 18446744073709551616 ∧ u * 18446744073709551616 + v = (hi * 18446744073709551616 + lo) * pw s := by
  have hb := bl_len64 (x := y) (by omega) hy'
  rw [← hb] at hs
  obtain ⟨a, ea, a0, a1⟩ := bl_spec (v := y) (by omega)
  have ha : a < 64 := by
    have : pw a < pw 64 := by rw [← B_pw, B_eq]; omega
    exact pw_lt_iff.1 this
  have es : s = 63 - a := by omega
  have hs64 : s < 64 := by omega
  have hp := pw_pos s
  have k1 : pw a * pw s ≤ y * pw s := Int.mul_le_mul_of_nonneg_right a0 (by omega)
  have k2 : y * pw s < pw (a + 1) * pw s := Int.mul_lt_mul_of_pos_right a1 hp
  rw [← pw_add, show a + s = 63 from by omega] at k1
  rw [← pw_add, show a + 1 + s = 64 from by omega, ← B_pw, B_eq] at k2
  have e63 : pw 63 = 9223372036854775808 := by decide
  rw [e63] at k1
  have k3 : hi * pw s ≤ (y - 1) * pw s := Int.mul_le_mul_of_nonneg_right (by omega) (by omega)
  have k4 : (y - 1) * pw s = y * pw s - pw s := by grind
  have k5 : 0 ≤ hi * pw s := Int.mul_nonneg (by omega) (by omega)
  have o := or_back2 (x := hi) (y := lo) hs64 (by omega) hl0 hl
  have lw := shl_word (x := lo) (r := s) (by omega)
  have l0 : 0 ≤ lo / pw (64 - s) := Int.ediv_nonneg hl0 (Int.le_of_lt (pw_pos _))
  have l1 : lo / pw (64 - s) < pw s := Int.ediv_lt_of_lt_mul (pw_pos _) (by rw [← B_split (by omega), B_eq]; exact hl)
  have m0 : hi * pw s % B = hi * pw s := Int.emod_eq_of_lt k5 (by rw [B_eq]; omega)
  rw [m0] at o
  refine ⟨hs64, y * pw s, hi * pw s + lo / pw (64 - s), lo * pw s % B, u64_is (x := y * 2 ^ s) (by show 0 ≤ y * pw s; omega) (by show y * pw s < _; omega), by omega, by omega, rfl, o, by omega, by omega, ?_, ?_, ?_, ?_⟩
  · rw [IntKind.wrap_u64, B_eq]; rfl
  · rw [B_eq]; omega
  · rw [B_eq]; omega
  · have e1 : (hi * 18446744073709551616 + lo) * pw s = hi * pw s * 18446744073709551616 + lo * pw s := by grind
    rw [e1, lw, B_eq]; omega
theorem half_start {u v Y : Int} (hu : 0 ≤ u) (hv' : v < 4294967296) (hY : 9223372036854775808 ≤ Y) : (u * 4294967296 + v) / Y ≤ u / (Y / 4294967296) := by
  have hy1 : 0 < Y / 4294967296 := by omega
  by_cases hneg : (u * 4294967296 + v) / Y < 0
  · have := Int.ediv_nonneg hu (Int.le_of_lt hy1); omega
  apply Int.le_ediv_of_mul_le hy1
  have h1 := Int.ediv_mul_le (u * 4294967296 + v) (b := Y) (by omega)
  have h2 : (u * 4294967296 + v) / Y * (Y / 4294967296 * 4294967296) ≤ (u * 4294967296 + v) / Y * Y := Int.mul_le_mul_of_nonneg_left (by omega) (by omega)
  generalize (u * 4294967296 + v) / Y = t at *
  generalize Y / 4294967296 = y1 at *
  rw [← Int.mul_assoc] at h2
  omega
theorem div64_done {hi lo y u v Y t m t0 n : Int} {s : Nat} (hy : 0 < y) (hY : Y = y * pw s) (hN : u * 18446744073709551616 + v = (hi * 18446744073709551616 + lo) * pw s)
    (ht : t = (u * 4294967296 + v / 4294967296) / Y) (hm : m = (u * 4294967296 + v / 4294967296) % Y) (ht0 : t0 = (m * 4294967296 + v % 4294967296) / Y) (hn : n = m * 4294967296 + v % 4294967296 - t0 * Y) :
    t * 4294967296 + t0 = (hi * 18446744073709551616 + lo) / y ∧ n / 2 ^ s = (hi * 18446744073709551616 + lo) % y := by
  have hp := pw_pos s
  have hYp : 0 < Y := by rw [hY]; exact Int.mul_pos hy hp
  have e1 : (hi * 18446744073709551616 + lo) * pw s = (u * 4294967296 + v / 4294967296) * 4294967296 + v % 4294967296 := by rw [← hN]; omega
  have d := div_two (u * 4294967296 + v / 4294967296) (v % 4294967296) 4294967296 hYp
  have d2 := mod_two (u * 4294967296 + v / 4294967296) (v % 4294967296) 4294967296 Y
  rw [← ht, ← hm, ← ht0, ← e1] at d
  rw [← hm, ← e1] at d2
  have e2 : n = (m * 4294967296 + v % 4294967296) % Y := by rw [hn, Int.emod_def (m * 4294967296 + v % 4294967296) Y, ← ht0, Int.mul_comm Y]
  rw [hY, Int.mul_ediv_mul_of_pos_left _ _ hp] at d
  rw [← e2, hY, Int.mul_comm _ (pw s), Int.mul_comm y, Int.mul_emod_mul_of_pos _ _ hp] at d2
  refine ⟨d.symm, ?_⟩
  rw [← d2]
  exact Int.mul_ediv_cancel_left _ (Int.ne_of_gt hp)
set_option maxHeartbeats 2000000 in
theorem div64 (hi lo y : Int) (w : World) (h0 : 0 < hi) (hl0 : 0 ≤ lo) (hl : lo < 18446744073709551616) (hy : hi < y) (hy' : y < 18446744073709551616) :
    Calls Tryd.prog 141 #[.int .u64 hi, .int .u64 lo, .int .u64 y] w fun e w' => e = .returned (.tuple #[.int .u64 ((hi * 18446744073709551616 + lo) / y), .int .u64 ((hi * 18446744073709551616 + lo) % y)]) ∧ Still w w' := by
  have d1 : (y == 0) = false := beq_eq_false_iff_ne.2 (by omega)
  have d2 : decide (y ≤ hi) = false := by simp; omega
  have d3 : (hi == 0) = false := beq_eq_false_iff_ne.2 (by omega)
  have L := lead64 y w (by omega) hy'
  obtain ⟨s, hs⟩ : ∃ s : Nat, (64 : Int) - Lib.bitLen y.toNat = s := ⟨64 - Lib.bitLen y.toNat, by
    have := bl_len64 (x := y) (by omega) hy'
    have h2 := bl_lt (v := y) (a := 64) (by omega) (by rw [← B_pw, B_eq]; exact hy')
    omega⟩
  obtain ⟨s64, Y, u, v, eY, Y0, Y1, eY2, eu, u0, u1, ev, v0', v1', hN⟩ := div64_setup h0 hl0 hl hy hy' hs
  rw [hs] at L
  have hT : ∃ t m t0 n : Int, t = (u * 4294967296 + v / 4294967296) / Y ∧ m = (u * 4294967296 + v / 4294967296) % Y ∧ t0 = (m * 4294967296 + v % 4294967296) / Y ∧ n = m * 4294967296 + v % 4294967296 - t0 * Y := ⟨_, _, _, _, rfl, rfl, rfl, rfl⟩
  obtain ⟨t, m, t0, n, et, em, et0, en⟩ := hT
  have hdone := div64_done (by omega) eY2 hN et em et0 en
  have hm0 : 0 ≤ m ∧ m < Y := by rw [em]; exact ⟨Int.emod_nonneg _ (by omega), Int.emod_lt_of_pos _ (by omega)⟩
  have hm1 : u * 4294967296 + v / 4294967296 - t * Y = m := by rw [em, et, Int.emod_def, Int.mul_comm Y]
  have hn0 : 0 ≤ n ∧ n < Y := by
    have e2 : n = (m * 4294967296 + v % 4294967296) % Y := by rw [en, Int.emod_def (m * 4294967296 + v % 4294967296) Y, ← et0, Int.mul_comm Y]
    rw [e2]; exact ⟨Int.emod_nonneg _ (by omega), Int.emod_lt_of_pos _ (by omega)⟩
  have hs1 := half_start (u := u) (v := v / 4294967296) (Y := Y) u0 (by omega) Y0
  have hs2 := half_start (u := m) (v := v % 4294967296) (Y := Y) hm0.1 (by omega) Y0
  rw [← et] at hs1
  rw [← et0] at hs2
  have t_lt : t < 4294967296 ∧ 0 ≤ t := by rw [et]; exact ⟨Int.ediv_lt_of_lt_mul (by omega) (by omega), Int.ediv_nonneg (by omega) (by omega)⟩
  have t0_lt : t0 < 4294967296 ∧ 0 ≤ t0 := by rw [et0]; exact ⟨Int.ediv_lt_of_lt_mul (by omega) (by omega), Int.ediv_nonneg (by omega) (by omega)⟩
  have eb0 := and_low (x := Y) (by omega) (by omega)
  have ec0 := and_low (x := v) (by omega) (by omega)
  have eYY : Y = Y / 4294967296 * 4294967296 + Y % 4294967296 := by omega
  have y0b : 0 ≤ Y % 4294967296 ∧ Y % 4294967296 < 4294967296 := by omega
  have y1b : 2147483648 ≤ Y / 4294967296 ∧ Y / 4294967296 < 4294967296 := by omega
  have v0b : 0 ≤ v % 4294967296 ∧ v % 4294967296 < 4294967296 := by omega
  have v1b : 0 ≤ v / 4294967296 ∧ v / 4294967296 < 4294967296 := by omega
  have q1b : 0 ≤ u / (Y / 4294967296) ∧ u / (Y / 4294967296) ≤ u := ⟨Int.ediv_nonneg u0 (by omega), Int.ediv_le_self _ u0⟩
  have q0b : 0 ≤ m / (Y / 4294967296) ∧ m / (Y / 4294967296) ≤ m := ⟨Int.ediv_nonneg hm0.1 (by omega), Int.ediv_le_self _ hm0.1⟩
  have q1t : u.tdiv (Y / 4294967296) = u / (Y / 4294967296) := Int.tdiv_eq_ediv_of_nonneg u0
  have q0t : m.tdiv (Y / 4294967296) = m / (Y / 4294967296) := Int.tdiv_eq_ediv_of_nonneg hm0.1
  have q1e : u / (Y / 4294967296) * (Y / 4294967296) + u % (Y / 4294967296) = u := by rw [Int.mul_comm]; exact Int.mul_ediv_add_emod _ _
  have q0e : m / (Y / 4294967296) * (Y / 4294967296) + m % (Y / 4294967296) = m := by rw [Int.mul_comm]; exact Int.mul_ediv_add_emod _ _
  have r1b : 0 ≤ u % (Y / 4294967296) ∧ u % (Y / 4294967296) < Y / 4294967296 := ⟨Int.emod_nonneg _ (by omega), Int.emod_lt_of_pos _ (by omega)⟩
  have r0b : 0 ≤ m % (Y / 4294967296) ∧ m % (Y / 4294967296) < Y / 4294967296 := ⟨Int.emod_nonneg _ (by omega), Int.emod_lt_of_pos _ (by omega)⟩
  generalize hy1e : Y / 4294967296 = y1 at *
  generalize hy0e : Y % 4294967296 = y0 at *
  generalize hv1e : v / 4294967296 = v1 at *
  generalize hv0e : v % 4294967296 = v0 at *
  generalize u / y1 = q1 at *
  generalize u % y1 = r1 at *
  generalize m / y1 = q0 at *
  generalize m % y1 = r0 at *
  have p1 : 0 ≤ q1 * y1 := Int.mul_nonneg q1b.1 (by omega)
  have p0 : 0 ≤ q0 * y1 := Int.mul_nonneg q0b.1 (by omega)
  have w1 := u64_is (x := q1) q1b.1 (by omega)
  have w2 := u64_is (x := q1 * y1) (by omega) (by omega)
  have w3 : u - q1 * y1 = r1 := by omega
  have w5 := u64_is (x := q0) q0b.1 (by omega)
  have w6 := u64_is (x := q0 * y1) (by omega) (by omega)
  have w7 : m - q0 * y1 = r0 := by omega
  have ET := Lib.hid et
  have ET0 := Lib.hid et0
  have HM := Lib.hid hm1
  have HNn := Lib.hid en
  have HS1 := Lib.hid hs1
  have HS2 := Lib.hid hs2
  have Q1 := Lib.hid q1e
  have Q0 := Lib.hid q0e
  have HYY := Lib.hid eYY
  clear et et0 em hm1 en hs1 hs2 q1e q0e eYY hN eY2 hs
  go_enter Tryd.func141, Tryd.ntmps141
  go_wp2_with fail
  refine L.mono ?_; rintro r w' ⟨rfl, rfl⟩
  go_wp2_with fail
  have HDN := Lib.hid hdone
  clear hdone
  go_loop [15, 16] (fun vq vr => ∃ q r : Int, vq = .int .u64 q ∧ vr = .int .u64 r ∧ 0 ≤ q ∧ q < 18446744073709551616 ∧ 0 ≤ r ∧ r < 4294967296 ∧ Hid (q * y1 + r = u) ∧ Hid (t ≤ q)) (fun vq _ => (intOf vq).toNat)
  case atStart => exact ⟨q1, r1, rfl, rfl, q1b.1, by omega, r1b.1, by omega, Q1.out, HS1.out⟩
  case round =>
    obtain ⟨p, o, rfl, rfl, pb0, pb1, ob0, ob1, hI2, ht2⟩ := hrel
    have hyy := HYY.out
    have nx : ∀ (_ : 4294967296 ≤ p ∨ 4294967296 * o + v1 < p * y0), t ≤ p - 1 := fun hc => half_next (y1 := y1) (y0 := y0) v1b.2 (by omega) (by omega) hI2.out (by rw [← hyy]; exact ET.out) ht2.out hc
    have bk : ∀ (_ : t ≤ p - 1) (_ : 4294967296 ≤ o + y1), p - 1 = t := fun h1 h2 => half_break (y1 := y1) (y0 := y0) (by omega) y0b.1 y0b.2 v1b.1 (by omega) (by have := hI2.out; grind : (p - 1) * y1 + (o + y1) = u) (by rw [← hyy]; exact ET.out) h1 h2
    have en : p * y0 ≤ 4294967296 * o + v1 → p = t := fun hc => half_end (y1 := y1) (y0 := y0) (by omega) hI2.out (by rw [← hyy]; exact ET.out) ht2.out hc
    have nI : (p - 1) * y1 + (o + y1) = u := by have := hI2.out; grind
    have NI := Lib.hid nI
    clear nI hyy
    by_cases g1 : 4294967296 ≤ p
    · have hn := nx (.inl g1)
      have dd : decide (p ≥ 4294967296) = true := by simp; omega
      have bk := bk hn
      have HB := Lib.hid bk
      have HN2 := Lib.hid hn
      have hq2 : 1 ≤ p := by omega
      clear nx bk en hn
      by_cases g2 : 4294967296 ≤ o + y1
      · have EE : Hid (p - 1 = t) := HB.out g2
        have pb : 0 ≤ p - 1 ∧ p - 1 < 4294967296 := by have := EE.out; omega
        (have z0 : IntKind.u64.wrap (IntKind.u64.wrap (IntKind.u64.wrap (u * 4294967296) + v1) - IntKind.u64.wrap ((p - 1) * Y)) = m := (by rw [IntKind.wrap_u64, IntKind.wrap_u64, IntKind.wrap_u64, IntKind.wrap_u64]; have h1 := HM.out; have h2 := EE.out; rw [h2]; omega); go_wp2_with fail; go_loop [18, 16] (fun vq vr => ∃ q r : Int, vq = .int .u64 q ∧ vr = .int .u64 r ∧ 0 ≤ q ∧ q < 18446744073709551616 ∧ 0 ≤ r ∧ r < 4294967296 ∧ Hid (q * y1 + r = m) ∧ Hid (t0 ≤ q)) (fun vq _ => (intOf vq).toNat); (case atStart => exact ⟨q0, r0, rfl, rfl, q0b.1, by omega, r0b.1, by omega, Q0.out, HS2.out⟩); (case round => obtain ⟨q, r, rfl, rfl, qb0, qb1, rb0, rb1, hI2, ht2⟩ := hrel; (have hyy := HYY.out; have nx : ∀ (_ : 4294967296 ≤ q ∨ 4294967296 * r + v0 < q * y0), t0 ≤ q - 1 := (fun hc => half_next (y1 := y1) (y0 := y0) v0b.2 (by omega) (by omega) hI2.out (by rw [← hyy]; exact ET0.out) ht2.out hc); have bk : ∀ (_ : t0 ≤ q - 1) (_ : 4294967296 ≤ r + y1), q - 1 = t0 := (fun h1 h2 => half_break (y1 := y1) (y0 := y0) (by omega) y0b.1 y0b.2 v0b.1 (by omega) (by have := hI2.out; grind : (q - 1) * y1 + (r + y1) = m) (by rw [← hyy]; exact ET0.out) h1 h2); have en : q * y0 ≤ 4294967296 * r + v0 → q = t0 := (fun hc => half_end (y1 := y1) (y0 := y0) (by omega) hI2.out (by rw [← hyy]; exact ET0.out) ht2.out hc); have nI : (q - 1) * y1 + (r + y1) = m := (by have := hI2.out; grind); have NI := Lib.hid nI; clear nI hyy; by_cases g1 : 4294967296 ≤ q; (· have hn := nx (.inl g1); have dd : decide (q ≥ 4294967296) = true := (by simp; omega); have bk := bk hn; have HB := Lib.hid bk; have HN2 := Lib.hid hn; have hq2 : 1 ≤ q := (by omega); clear nx bk en hn; by_cases g2 : 4294967296 ≤ r + y1; (· have EF : Hid (q - 1 = t0) := HB.out g2; have qb : 0 ≤ q - 1 ∧ q - 1 < 4294967296 := (by have := EF.out; omega); (have z1 := u64_is (x := (p - 1) * 4294967296) (by omega) (by omega); have z2 := u64_is (x := (p - 1) * 4294967296 + (q - 1)) (by omega) (by omega); have z3 : IntKind.u64.wrap (IntKind.u64.wrap (IntKind.u64.wrap (m * 4294967296) + v0) - IntKind.u64.wrap ((q - 1) * Y)) = n := (by rw [IntKind.wrap_u64, IntKind.wrap_u64, IntKind.wrap_u64, IntKind.wrap_u64]; have h1 := HNn.out; have h2 := EF.out; rw [h2]; omega); go_wp2_with fail; go_ret2; exact ⟨by (rw [EE.out, EF.out, HDN.out.1, HDN.out.2]; rfl), Still.refl _⟩)); (· have d5 : decide (r + y1 ≥ 4294967296) = false := (by simp; omega); go_wp2_with fail; exact ⟨⟨q - 1, r + y1, by go_num, by go_num, by omega, by omega, by omega, by omega, NI.out, HN2.out⟩, by simp only [intOf]; omega⟩)); (· have dd : decide (q ≥ 4294967296) = false := (by simp; omega); have p2 : 0 ≤ q * y0 := Int.mul_nonneg qb0 y0b.1; have p3 : q * y0 ≤ 4294967295 * y0 := Int.mul_le_mul_of_nonneg_right (by omega) y0b.1; have p4 := u64_is (x := q * y0) p2 (by omega); by_cases g3 : 4294967296 * r + v0 < q * y0; (· have hn := nx (.inr g3); have bk := bk hn; have HB := Lib.hid bk; have HN2 := Lib.hid hn; have hq2 : 1 ≤ q := (by omega); clear nx bk en hn; by_cases g2 : 4294967296 ≤ r + y1; (· have EF : Hid (q - 1 = t0) := HB.out g2; have qb : 0 ≤ q - 1 ∧ q - 1 < 4294967296 := (by have := EF.out; omega); (have z1 := u64_is (x := (p - 1) * 4294967296) (by omega) (by omega); have z2 := u64_is (x := (p - 1) * 4294967296 + (q - 1)) (by omega) (by omega); have z3 : IntKind.u64.wrap (IntKind.u64.wrap (IntKind.u64.wrap (m * 4294967296) + v0) - IntKind.u64.wrap ((q - 1) * Y)) = n := (by rw [IntKind.wrap_u64, IntKind.wrap_u64, IntKind.wrap_u64, IntKind.wrap_u64]; have h1 := HNn.out; have h2 := EF.out; rw [h2]; omega); go_wp2_with fail; go_ret2; exact ⟨by (rw [EE.out, EF.out, HDN.out.1, HDN.out.2]; rfl), Still.refl _⟩)); (· have d5 : decide (r + y1 ≥ 4294967296) = false := (by simp; omega); go_wp2_with fail; exact ⟨⟨q - 1, r + y1, by go_num, by go_num, by omega, by omega, by omega, by omega, NI.out, HN2.out⟩, by simp only [intOf]; omega⟩)); (· have EF : Hid (q = t0) := en (by omega); have qb : 0 ≤ q ∧ q < 4294967296 := (by omega); clear nx bk en; (have z1 := u64_is (x := (p - 1) * 4294967296) (by omega) (by omega); have z2 := u64_is (x := (p - 1) * 4294967296 + (q)) (by omega) (by omega); have z3 : IntKind.u64.wrap (IntKind.u64.wrap (IntKind.u64.wrap (m * 4294967296) + v0) - IntKind.u64.wrap ((q) * Y)) = n := (by rw [IntKind.wrap_u64, IntKind.wrap_u64, IntKind.wrap_u64, IntKind.wrap_u64]; have h1 := HNn.out; have h2 := EF.out; rw [h2]; omega); go_wp2_with fail; go_ret2; exact ⟨by (rw [EE.out, EF.out, HDN.out.1, HDN.out.2]; rfl), Still.refl _⟩))))))
      · have d5 : decide (o + y1 ≥ 4294967296) = false := by simp; omega
        go_wp2_with fail
        exact ⟨⟨p - 1, o + y1, by go_num, by go_num, by omega, by omega, by omega, by omega, NI.out, HN2.out⟩, by simp only [intOf]; omega⟩
    · have dd : decide (p ≥ 4294967296) = false := by simp; omega
      have p2 : 0 ≤ p * y0 := Int.mul_nonneg pb0 y0b.1
      have p3 : p * y0 ≤ 4294967295 * y0 := Int.mul_le_mul_of_nonneg_right (by omega) y0b.1
      have p4 := u64_is (x := p * y0) p2 (by omega)
      by_cases g3 : 4294967296 * o + v1 < p * y0
      · have hn := nx (.inr g3)
        have bk := bk hn
        have HB := Lib.hid bk
        have HN2 := Lib.hid hn
        have hq2 : 1 ≤ p := by omega
        clear nx bk en hn
        by_cases g2 : 4294967296 ≤ o + y1
        · have EE : Hid (p - 1 = t) := HB.out g2
          have pb : 0 ≤ p - 1 ∧ p - 1 < 4294967296 := by have := EE.out; omega
          (have z0 : IntKind.u64.wrap (IntKind.u64.wrap (IntKind.u64.wrap (u * 4294967296) + v1) - IntKind.u64.wrap ((p - 1) * Y)) = m := (by rw [IntKind.wrap_u64, IntKind.wrap_u64, IntKind.wrap_u64, IntKind.wrap_u64]; have h1 := HM.out; have h2 := EE.out; rw [h2]; omega); go_wp2_with fail; go_loop [18, 16] (fun vq vr => ∃ q r : Int, vq = .int .u64 q ∧ vr = .int .u64 r ∧ 0 ≤ q ∧ q < 18446744073709551616 ∧ 0 ≤ r ∧ r < 4294967296 ∧ Hid (q * y1 + r = m) ∧ Hid (t0 ≤ q)) (fun vq _ => (intOf vq).toNat); (case atStart => exact ⟨q0, r0, rfl, rfl, q0b.1, by omega, r0b.1, by omega, Q0.out, HS2.out⟩); (case round => obtain ⟨q, r, rfl, rfl, qb0, qb1, rb0, rb1, hI2, ht2⟩ := hrel; (have hyy := HYY.out; have nx : ∀ (_ : 4294967296 ≤ q ∨ 4294967296 * r + v0 < q * y0), t0 ≤ q - 1 := (fun hc => half_next (y1 := y1) (y0 := y0) v0b.2 (by omega) (by omega) hI2.out (by rw [← hyy]; exact ET0.out) ht2.out hc); have bk : ∀ (_ : t0 ≤ q - 1) (_ : 4294967296 ≤ r + y1), q - 1 = t0 := (fun h1 h2 => half_break (y1 := y1) (y0 := y0) (by omega) y0b.1 y0b.2 v0b.1 (by omega) (by have := hI2.out; grind : (q - 1) * y1 + (r + y1) = m) (by rw [← hyy]; exact ET0.out) h1 h2); have en : q * y0 ≤ 4294967296 * r + v0 → q = t0 := (fun hc => half_end (y1 := y1) (y0 := y0) (by omega) hI2.out (by rw [← hyy]; exact ET0.out) ht2.out hc); have nI : (q - 1) * y1 + (r + y1) = m := (by have := hI2.out; grind); have NI := Lib.hid nI; clear nI hyy; by_cases g1 : 4294967296 ≤ q; (· have hn := nx (.inl g1); have dd : decide (q ≥ 4294967296) = true := (by simp; omega); have bk := bk hn; have HB := Lib.hid bk; have HN2 := Lib.hid hn; have hq2 : 1 ≤ q := (by omega); clear nx bk en hn; by_cases g2 : 4294967296 ≤ r + y1; (· have EF : Hid (q - 1 = t0) := HB.out g2; have qb : 0 ≤ q - 1 ∧ q - 1 < 4294967296 := (by have := EF.out; omega); (have z1 := u64_is (x := (p - 1) * 4294967296) (by omega) (by omega); have z2 := u64_is (x := (p - 1) * 4294967296 + (q - 1)) (by omega) (by omega); have z3 : IntKind.u64.wrap (IntKind.u64.wrap (IntKind.u64.wrap (m * 4294967296) + v0) - IntKind.u64.wrap ((q - 1) * Y)) = n := (by rw [IntKind.wrap_u64, IntKind.wrap_u64, IntKind.wrap_u64, IntKind.wrap_u64]; have h1 := HNn.out; have h2 := EF.out; rw [h2]; omega); go_wp2_with fail; go_ret2; exact ⟨by (rw [EE.out, EF.out, HDN.out.1, HDN.out.2]; rfl), Still.refl _⟩)); (· have d5 : decide (r + y1 ≥ 4294967296) = false := (by simp; omega); go_wp2_with fail; exact ⟨⟨q - 1, r + y1, by go_num, by go_num, by omega, by omega, by omega, by omega, NI.out, HN2.out⟩, by simp only [intOf]; omega⟩)); (· have dd : decide (q ≥ 4294967296) = false := (by simp; omega); have p2 : 0 ≤ q * y0 := Int.mul_nonneg qb0 y0b.1; have p3 : q * y0 ≤ 4294967295 * y0 := Int.mul_le_mul_of_nonneg_right (by omega) y0b.1; have p4 := u64_is (x := q * y0) p2 (by omega); by_cases g3 : 4294967296 * r + v0 < q * y0; (· have hn := nx (.inr g3); have bk := bk hn; have HB := Lib.hid bk; have HN2 := Lib.hid hn; have hq2 : 1 ≤ q := (by omega); clear nx bk en hn; by_cases g2 : 4294967296 ≤ r + y1; (· have EF : Hid (q - 1 = t0) := HB.out g2; have qb : 0 ≤ q - 1 ∧ q - 1 < 4294967296 := (by have := EF.out; omega); (have z1 := u64_is (x := (p - 1) * 4294967296) (by omega) (by omega); have z2 := u64_is (x := (p - 1) * 4294967296 + (q - 1)) (by omega) (by omega); have z3 : IntKind.u64.wrap (IntKind.u64.wrap (IntKind.u64.wrap (m * 4294967296) + v0) - IntKind.u64.wrap ((q - 1) * Y)) = n := (by rw [IntKind.wrap_u64, IntKind.wrap_u64, IntKind.wrap_u64, IntKind.wrap_u64]; have h1 := HNn.out; have h2 := EF.out; rw [h2]; omega); go_wp2_with fail; go_ret2; exact ⟨by (rw [EE.out, EF.out, HDN.out.1, HDN.out.2]; rfl), Still.refl _⟩)); (· have d5 : decide (r + y1 ≥ 4294967296) = false := (by simp; omega); go_wp2_with fail; exact ⟨⟨q - 1, r + y1, by go_num, by go_num, by omega, by omega, by omega, by omega, NI.out, HN2.out⟩, by simp only [intOf]; omega⟩)); (· have EF : Hid (q = t0) := en (by omega); have qb : 0 ≤ q ∧ q < 4294967296 := (by omega); clear nx bk en; (have z1 := u64_is (x := (p - 1) * 4294967296) (by omega) (by omega); have z2 := u64_is (x := (p - 1) * 4294967296 + (q)) (by omega) (by omega); have z3 : IntKind.u64.wrap (IntKind.u64.wrap (IntKind.u64.wrap (m * 4294967296) + v0) - IntKind.u64.wrap ((q) * Y)) = n := (by rw [IntKind.wrap_u64, IntKind.wrap_u64, IntKind.wrap_u64, IntKind.wrap_u64]; have h1 := HNn.out; have h2 := EF.out; rw [h2]; omega); go_wp2_with fail; go_ret2; exact ⟨by (rw [EE.out, EF.out, HDN.out.1, HDN.out.2]; rfl), Still.refl _⟩))))))
        · have d5 : decide (o + y1 ≥ 4294967296) = false := by simp; omega
          go_wp2_with fail
          exact ⟨⟨p - 1, o + y1, by go_num, by go_num, by omega, by omega, by omega, by omega, NI.out, HN2.out⟩, by simp only [intOf]; omega⟩
      · have EE : Hid (p = t) := en (by omega)
        have pb : 0 ≤ p ∧ p < 4294967296 := by omega
        clear nx bk en
        (have z0 : IntKind.u64.wrap (IntKind.u64.wrap (IntKind.u64.wrap (u * 4294967296) + v1) - IntKind.u64.wrap ((p) * Y)) = m := (by rw [IntKind.wrap_u64, IntKind.wrap_u64, IntKind.wrap_u64, IntKind.wrap_u64]; have h1 := HM.out; have h2 := EE.out; rw [h2]; omega); go_wp2_with fail; go_loop [18, 16] (fun vq vr => ∃ q r : Int, vq = .int .u64 q ∧ vr = .int .u64 r ∧ 0 ≤ q ∧ q < 18446744073709551616 ∧ 0 ≤ r ∧ r < 4294967296 ∧ Hid (q * y1 + r = m) ∧ Hid (t0 ≤ q)) (fun vq _ => (intOf vq).toNat); (case atStart => exact ⟨q0, r0, rfl, rfl, q0b.1, by omega, r0b.1, by omega, Q0.out, HS2.out⟩); (case round => obtain ⟨q, r, rfl, rfl, qb0, qb1, rb0, rb1, hI2, ht2⟩ := hrel; (have hyy := HYY.out; have nx : ∀ (_ : 4294967296 ≤ q ∨ 4294967296 * r + v0 < q * y0), t0 ≤ q - 1 := (fun hc => half_next (y1 := y1) (y0 := y0) v0b.2 (by omega) (by omega) hI2.out (by rw [← hyy]; exact ET0.out) ht2.out hc); have bk : ∀ (_ : t0 ≤ q - 1) (_ : 4294967296 ≤ r + y1), q - 1 = t0 := (fun h1 h2 => half_break (y1 := y1) (y0 := y0) (by omega) y0b.1 y0b.2 v0b.1 (by omega) (by have := hI2.out; grind : (q - 1) * y1 + (r + y1) = m) (by rw [← hyy]; exact ET0.out) h1 h2); have en : q * y0 ≤ 4294967296 * r + v0 → q = t0 := (fun hc => half_end (y1 := y1) (y0 := y0) (by omega) hI2.out (by rw [← hyy]; exact ET0.out) ht2.out hc); have nI : (q - 1) * y1 + (r + y1) = m := (by have := hI2.out; grind); have NI := Lib.hid nI; clear nI hyy; by_cases g1 : 4294967296 ≤ q; (· have hn := nx (.inl g1); have dd : decide (q ≥ 4294967296) = true := (by simp; omega); have bk := bk hn; have HB := Lib.hid bk; have HN2 := Lib.hid hn; have hq2 : 1 ≤ q := (by omega); clear nx bk en hn; by_cases g2 : 4294967296 ≤ r + y1; (· have EF : Hid (q - 1 = t0) := HB.out g2; have qb : 0 ≤ q - 1 ∧ q - 1 < 4294967296 := (by have := EF.out; omega); (have z1 := u64_is (x := (p) * 4294967296) (by omega) (by omega); have z2 := u64_is (x := (p) * 4294967296 + (q - 1)) (by omega) (by omega); have z3 : IntKind.u64.wrap (IntKind.u64.wrap (IntKind.u64.wrap (m * 4294967296) + v0) - IntKind.u64.wrap ((q - 1) * Y)) = n := (by rw [IntKind.wrap_u64, IntKind.wrap_u64, IntKind.wrap_u64, IntKind.wrap_u64]; have h1 := HNn.out; have h2 := EF.out; rw [h2]; omega); go_wp2_with fail; go_ret2; exact ⟨by (rw [EE.out, EF.out, HDN.out.1, HDN.out.2]; rfl), Still.refl _⟩)); (· have d5 : decide (r + y1 ≥ 4294967296) = false := (by simp; omega); go_wp2_with fail; exact ⟨⟨q - 1, r + y1, by go_num, by go_num, by omega, by omega, by omega, by omega, NI.out, HN2.out⟩, by simp only [intOf]; omega⟩)); (· have dd : decide (q ≥ 4294967296) = false := (by simp; omega); have p2 : 0 ≤ q * y0 := Int.mul_nonneg qb0 y0b.1; have p3 : q * y0 ≤ 4294967295 * y0 := Int.mul_le_mul_of_nonneg_right (by omega) y0b.1; have p4 := u64_is (x := q * y0) p2 (by omega); by_cases g3 : 4294967296 * r + v0 < q * y0; (· have hn := nx (.inr g3); have bk := bk hn; have HB := Lib.hid bk; have HN2 := Lib.hid hn; have hq2 : 1 ≤ q := (by omega); clear nx bk en hn; by_cases g2 : 4294967296 ≤ r + y1; (· have EF : Hid (q - 1 = t0) := HB.out g2; have qb : 0 ≤ q - 1 ∧ q - 1 < 4294967296 := (by have := EF.out; omega); (have z1 := u64_is (x := (p) * 4294967296) (by omega) (by omega); have z2 := u64_is (x := (p) * 4294967296 + (q - 1)) (by omega) (by omega); have z3 : IntKind.u64.wrap (IntKind.u64.wrap (IntKind.u64.wrap (m * 4294967296) + v0) - IntKind.u64.wrap ((q - 1) * Y)) = n := (by rw [IntKind.wrap_u64, IntKind.wrap_u64, IntKind.wrap_u64, IntKind.wrap_u64]; have h1 := HNn.out; have h2 := EF.out; rw [h2]; omega); go_wp2_with fail; go_ret2; exact ⟨by (rw [EE.out, EF.out, HDN.out.1, HDN.out.2]; rfl), Still.refl _⟩)); (· have d5 : decide (r + y1 ≥ 4294967296) = false := (by simp; omega); go_wp2_with fail; exact ⟨⟨q - 1, r + y1, by go_num, by go_num, by omega, by omega, by omega, by omega, NI.out, HN2.out⟩, by simp only [intOf]; omega⟩)); (· have EF : Hid (q = t0) := en (by omega); have qb : 0 ≤ q ∧ q < 4294967296 := (by omega); clear nx bk en; (have z1 := u64_is (x := (p) * 4294967296) (by omega) (by omega); have z2 := u64_is (x := (p) * 4294967296 + (q)) (by omega) (by omega); have z3 : IntKind.u64.wrap (IntKind.u64.wrap (IntKind.u64.wrap (m * 4294967296) + v0) - IntKind.u64.wrap ((q) * Y)) = n := (by rw [IntKind.wrap_u64, IntKind.wrap_u64, IntKind.wrap_u64, IntKind.wrap_u64]; have h1 := HNn.out; have h2 := EF.out; rw [h2]; omega); go_wp2_with fail; go_ret2; exact ⟨by (rw [EE.out, EF.out, HDN.out.1, HDN.out.2]; rfl), Still.refl _⟩))))))
end Go.Proofs.YtbfnjjnnlbchgaaDoor
