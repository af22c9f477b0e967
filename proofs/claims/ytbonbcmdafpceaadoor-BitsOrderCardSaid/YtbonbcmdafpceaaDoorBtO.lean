/- The law BitsOrder. -/
import Derived.Test.YtbonbcmdafpceaaDoorBtLaws
import Derived.Test.YtbonbcmdafpceaaDoorBtN
import Derived.Test.YtbonbcmdafpceaaDoorDyG
namespace Go.Proofs.YtbonbcmdafpceaaDoor
open Go.RowKit Num
set_option maxRecDepth 100000

/-- A word's size in units of 2^-1074; a is the word without its sign. -/
def mag (a : Int) : Int := if a / 4503599627370496 = 0 then a % 4503599627370496 else (a % 4503599627370496 + 4503599627370496) * pw (a / 4503599627370496 - 1).toNat
theorem mag_zero : mag 0 = 0 := rfl
theorem mag_step {x : Int} (h : 0 ≤ x) : mag x < mag (x + 1) := by
  unfold mag
  by_cases hf : x % 4503599627370496 + 1 < 4503599627370496
  · have e1 : (x + 1) / 4503599627370496 = x / 4503599627370496 := by omega
    have e2 : (x + 1) % 4503599627370496 = x % 4503599627370496 + 1 := by omega
    rw [e1, e2]
    by_cases hq : x / 4503599627370496 = 0
    · rw [if_pos hq, if_pos hq]; omega
    · rw [if_neg hq, if_neg hq]
      exact Int.mul_lt_mul_of_pos_right (by omega) (pw_pos _)
  · have e1 : (x + 1) / 4503599627370496 = x / 4503599627370496 + 1 := by omega
    have e2 : (x + 1) % 4503599627370496 = 0 := by omega
    have e3 : x % 4503599627370496 = 4503599627370495 := by omega
    have hq0 : 0 ≤ x / 4503599627370496 := by omega
    rw [e1, e2, e3]
    generalize x / 4503599627370496 = q at *
    rw [if_neg (show ¬ q + 1 = 0 by omega)]
    by_cases hq : q = 0
    · rw [if_pos hq, hq]; decide
    · rw [if_neg hq, show (q + 1 - 1).toNat = (q - 1).toNat + 1 by omega, pw_add]
      have := pw_pos (q - 1).toNat
      have e : pw 1 = 2 := rfl
      rw [e]
      omega
theorem mag_lt {x y : Int} (h : 0 ≤ x) (hxy : x < y) : mag x < mag y := by
  obtain ⟨n, rfl⟩ : ∃ n : Nat, y = x + 1 + n := ⟨(y - x - 1).toNat, by omega⟩
  clear hxy
  induction n with
  | zero => rw [Int.natCast_zero, Int.add_zero]; exact mag_step h
  | succ n ih =>
    have := mag_step (x := x + 1 + n) (by omega)
    have e : x + 1 + ((n + 1 : Nat) : Int) = x + 1 + n + 1 := by omega
    rw [e]; omega
theorem mag_nonneg {x : Int} (h : 0 ≤ x) : 0 ≤ mag x := by
  by_cases h0 : x = 0
  · rw [h0, mag_zero]; omega
  · have := mag_lt (x := 0) (y := x) (by omega) (by omega)
    rw [mag_zero] at this; omega
theorem mag_le {x y : Int} (h : 0 ≤ x) (hxy : x ≤ y) : mag x ≤ mag y := by
  by_cases e : x = y
  · rw [e]; omega
  · have := mag_lt h (show x < y by omega); omega
theorem sgn_le {p q : Bool} {s t : Int} (hs : 0 ≤ s) (ht : 0 ≤ t) (h : sgn p s ≤ sgn q t) : sgn p (mag s) ≤ sgn q (mag t) := by
  have a := mag_nonneg hs
  have b := mag_nonneg ht
  cases p <;> cases q <;> simp only [sgn, Bool.false_eq_true, if_false, if_true] at h ⊢
  · exact mag_le hs h
  · have e1 : s = 0 := by omega
    have e2 : t = 0 := by omega
    rw [e1, e2, mag_zero]; omega
  · omega
  · have := mag_le ht (show t ≤ s by omega); omega
theorem sgn_lt {p q : Bool} {s t : Int} (hs : 0 ≤ s) (ht : 0 ≤ t) (h : sgn p s < sgn q t) : sgn p (mag s) < sgn q (mag t) := by
  have a := mag_nonneg hs
  have b := mag_nonneg ht
  cases p <;> cases q <;> simp only [sgn, Bool.false_eq_true, if_false, if_true] at h ⊢
  · exact mag_lt hs h
  · omega
  · by_cases h0 : s = 0
    · have := mag_lt (x := 0) (y := t) (by omega) (by omega)
      rw [h0]; rw [mag_zero] at *; omega
    · have := mag_lt (x := 0) (y := s) (by omega) (by omega)
      rw [mag_zero] at this; omega
  · have := mag_lt ht (show t < s by omega); omega
/-- Where a word stands among all; what it stands for. -/
def ordW (b : Int) : Int := sgn (negB b) (b % 9223372036854775808)
def numV (b : Int) : Int := sgn (negB b) (mag (b % 9223372036854775808))
theorem num_V {b : Int} {d : Dy} (h : numD b = some d) :
    -1074 ≤ d.e ∧ sgn d.neg (lev d.m d.e (-1074)) = numV b ∧ plainB d.neg (wd d.m) d.e = true ∧ 0 ≤ d.m := by
  unfold numD at h
  have hf := frac_range b
  have hx := expo_range b
  have e1 : b % 9223372036854775808 / 4503599627370496 = expo b := by unfold expo; omega
  have e2 : b % 9223372036854775808 % 4503599627370496 = frac b := by unfold frac; omega
  by_cases c1 : expo b = 2047
  · rw [if_pos c1] at h; cases h
  · rw [if_neg c1] at h
    by_cases c2 : expo b = 0
    · rw [if_pos c2] at h
      have em : mag (b % 9223372036854775808) = frac b := by unfold mag; rw [e1, if_pos c2, e2]
      by_cases c3 : frac b = 0
      · rw [c3] at h
        unfold mkD at h
        rw [if_pos rfl] at h
        obtain rfl := Option.some.inj h
        refine ⟨by decide, ?_, ?_, by decide⟩
        · unfold numV
          rw [em, c3]
          show sgn false (0 * _) = sgn (negB b) 0
          rw [Int.zero_mul]
          cases negB b <;> rfl
        · have : wd Dy.zero.m = [] := wd_zero (Int.le_refl _)
          rw [this]; decide
      · obtain ⟨a, u, hs, hu, hp, hlt, -, ha, -, -⟩ := odd_53 (v := frac b) (by omega) (by omega)
        rw [mkD_odd _ hs hu hp (by omega) (by omega) (by omega) ha] at h
        obtain rfl := Option.some.inj h
        refine ⟨by simp only; omega, ?_, ?_, by simp only; omega⟩
        · unfold numV lev
          rw [em]
          simp only
          rw [show (-1074 + (a : Int) - -1074).toNat = a by omega, hs, Int.mul_comm]
        · simp only
          rw [plainB_words hp, wd_small hp (by omega)]
          simp [hu]; omega
    · rw [if_neg c2] at h
      have em : mag (b % 9223372036854775808) = (frac b + 4503599627370496) * pw (expo b - 1).toNat := by unfold mag; rw [e1, if_neg c2, e2]
      obtain ⟨a, u, hs, hu, hp, hlt, -, ha, -, -⟩ := odd_53 (v := frac b + 4503599627370496) (by omega) (by omega)
      rw [mkD_odd _ hs hu hp (by omega) (by omega) (by omega) ha] at h
      obtain rfl := Option.some.inj h
      refine ⟨by simp only; omega, ?_, ?_, by simp only; omega⟩
      · unfold numV lev
        rw [em, hs]
        simp only
        rw [show (expo b - 1075 + (a : Int) - -1074).toNat = a + (expo b - 1).toNat by omega, pw_add, ← Int.mul_assoc, Int.mul_comm u]
      · simp only
        rw [plainB_words hp, wd_small hp (by omega)]
        simp [hu]; omega
theorem cmp_V {b c : Int} {d f : Dy} (h : numD b = some d) (k : numD c = some f) :
    cmpR d.neg f.neg (wd d.m) (wd f.m) d.e f.e = .tuple #[.int .i64 (cmpI (numV b) (numV c)), .bool true] := by
  obtain ⟨a1, a2, a3, a4⟩ := num_V h
  obtain ⟨b1, b2, b3, b4⟩ := num_V k
  unfold cmpR
  rw [a3, b3, val_wd _ a4, val_wd _ b4]
  have := cmpD_at (a := d) (b := f) (L := -1074) a1 b1
  rw [a2, b2] at this
  rw [← this]
  rfl
theorem next_ord {b n : Int} (h0 : 0 ≤ b) (h1 : b < 18446744073709551616) (hx : expo b ≠ 2047) (h : nextW b true = some n) : ordW n = ordW b + 1 ∧ 0 ≤ n ∧ n < 18446744073709551616 := by
  have hk : kindI b = 0 ∧ b % 9223372036854775808 = 0 ∨ kindI b ≠ 0 ∧ kindI b ≠ 3 ∧ kindI b ≠ 4 ∧ b % 9223372036854775808 ≠ 0 := by
    unfold kindI
    rw [if_neg hx]
    by_cases c2 : expo b = 0
    · rw [if_pos c2]
      by_cases c3 : frac b = 0
      · rw [if_pos c3]; left
        unfold expo at c2; unfold frac at c3
        omega
      · rw [if_neg c3]; right
        unfold frac at c3
        refine ⟨by omega, by omega, by omega, by omega⟩
    · rw [if_neg c2]; right
      unfold expo at c2
      refine ⟨by omega, by omega, by omega, by omega⟩
  unfold nextW at h
  have hx2 : b % 9223372036854775808 < 9218868437227405312 := by
    unfold expo at hx; omega
  rcases hk with ⟨k0, ks⟩ | ⟨k0, k3, k4, ks⟩
  · rw [if_neg (by omega), if_pos k0] at h
    obtain rfl : 1 = n := by simpa using h
    refine ⟨?_, by omega, by omega⟩
    unfold ordW
    rw [ks]
    have e : negB 1 = false := by decide
    rw [e]
    cases negB b <;> simp [sgn]
  · rw [if_neg (by omega), if_neg k0] at h
    by_cases hn : 9223372036854775808 ≤ b
    · have e : negB b = true := by unfold negB; exact decide_eq_true hn
      rw [e, if_pos rfl] at h
      obtain rfl : b - 1 = n := by simpa using h
      have e2 : negB (b - 1) = true := by unfold negB; exact decide_eq_true (by omega)
      refine ⟨?_, by omega, by omega⟩
      unfold ordW
      rw [e, e2]
      simp only [sgn, if_true]
      omega
    · have e : negB b = false := by unfold negB; exact decide_eq_false hn
      rw [e, if_neg (by simp)] at h
      obtain rfl : b + 1 = n := by simpa using h
      have e2 : negB (b + 1) = false := by unfold negB; exact decide_eq_false (by omega)
      refine ⟨?_, by omega, by omega⟩
      unfold ordW
      rw [e, e2]
      simp only [sgn, Bool.false_eq_true, if_false]
      omega
theorem num_expo {b : Int} {d : Dy} (h : numD b = some d) : expo b ≠ 2047 := by
  intro hh
  unfold numD at h
  rw [if_pos hh] at h
  cases h
theorem next_range {b : Int} (h0 : 0 ≤ b) (h1 : b < 18446744073709551616) : 0 ≤ (nextW b true).getD 0 ∧ (nextW b true).getD 0 < 18446744073709551616 := by
  cases h : nextW b true with
  | none => simp
  | some n =>
    simp only [Option.getD_some]
    unfold nextW at h
    by_cases a : kindI b = 4 ∨ (kindI b = 3 ∧ negB b ≠ true)
    · rw [if_pos a] at h; cases h
    · rw [if_neg a] at h
      by_cases c : kindI b = 0
      · rw [if_pos c] at h
        obtain rfl : 1 = n := by simpa using h
        omega
      · rw [if_neg c] at h
        have p := kind_pos h0 c
        have q := kind_lt h1 (fun hh => a (.inl hh))
        split at h
        · obtain rfl : b - 1 = n := by simpa using h
          omega
        · obtain rfl : b + 1 = n := by simpa using h
          omega
theorem order_facts {b n : Int} (c : Int) (h0 : 0 ≤ b) (h1 : b < 18446744073709551616) (hx : expo b ≠ 2047) (h : nextW b true = some n) :
    cmpI (numV b) (numV n) = -1 ∧ (cmpI (numV c) (numV b) ≤ 0 ∨ 0 ≤ cmpI (numV c) (numV n)) := by
  obtain ⟨ho, n0, n1⟩ := next_ord h0 h1 hx h
  have hl : numV b < numV n := sgn_lt (by omega) (by omega) (show ordW b < ordW n by omega)
  refine ⟨cmpI_lt hl, ?_⟩
  by_cases hc : ordW c ≤ ordW b
  · have := sgn_le (p := negB c) (q := negB b) (s := c % 9223372036854775808) (t := b % 9223372036854775808) (by omega) (by omega) hc
    left
    unfold cmpI numV
    split
    · omega
    · split <;> omega
  · have := sgn_le (p := negB n) (q := negB c) (s := n % 9223372036854775808) (t := c % 9223372036854775808) (by omega) (by omega) (show ordW n ≤ ordW c by omega)
    right
    unfold cmpI numV
    split
    · omega
    · split <;> omega
set_option maxHeartbeats 4000000 in
theorem bitsOrder (b c : Int) (w : World) (h0 : 0 ≤ b) (h1 : b < 18446744073709551616) (k0 : 0 ≤ c) (k1 : c < 18446744073709551616) (hT : Tz w) :
    Calls Tryd.prog 3 #[.int .u64 b, .int .u64 c] w fun r w' => r = .returned (.bool true) ∧ Below w.heap.size w w' := by
  have hn := next_range h0 h1
  have NX := fun w => bnext b true w h0 h1
  have N1 := fun w hT => number b w h0 h1 hT
  have N2 := fun w hT => number ((nextW b true).getD 0) w hn.1 hn.2 hT
  have N3 := fun w hT => number c w k0 k1 hT
  have G : (nextW b true).isSome = true → (numD b).isSome = true → (numD ((nextW b true).getD 0)).isSome = true →
      (cmpR (optD (numD b)).neg (optD (numD ((nextW b true).getD 0))).neg (wd (optD (numD b)).m) (wd (optD (numD ((nextW b true).getD 0))).m) (optD (numD b)).e (optD (numD ((nextW b true).getD 0))).e = .tuple #[.int .i64 (-1), .bool true] ∧
      ((numD c).isSome = true → ∃ o p : Int, (o ≤ 0 ∨ 0 ≤ p) ∧
        cmpR (optD (numD c)).neg (optD (numD b)).neg (wd (optD (numD c)).m) (wd (optD (numD b)).m) (optD (numD c)).e (optD (numD b)).e = .tuple #[.int .i64 o, .bool true] ∧
        cmpR (optD (numD c)).neg (optD (numD ((nextW b true).getD 0))).neg (wd (optD (numD c)).m) (wd (optD (numD ((nextW b true).getD 0))).m) (optD (numD c)).e (optD (numD ((nextW b true).getD 0))).e = .tuple #[.int .i64 p, .bool true])) := by
    intro a1 a2 a3
    cases hnx : nextW b true with
    | none => rw [hnx] at a1; cases a1
    | some n =>
      rw [hnx] at a3 hn
      simp only [Option.getD_some] at a3 hn ⊢
      cases hd : numD b with
      | none => rw [hd] at a2; cases a2
      | some d =>
        cases hf : numD n with
        | none => rw [hf] at a3; cases a3
        | some f =>
          obtain ⟨f1, f2⟩ := order_facts c h0 h1 (num_expo hd) hnx
          refine ⟨?_, ?_⟩
          · show cmpR d.neg f.neg (wd d.m) (wd f.m) d.e f.e = _
            rw [cmp_V hd hf, f1]
          · intro a4
            cases hg : numD c with
            | none => rw [hg] at a4; cases a4
            | some z =>
              exact ⟨_, _, f2, cmp_V hg hd, cmp_V hg hf⟩
  unfold RetD at N1 N2 N3
  unfold RetW at NX
  generalize (nextW b true).isSome = ok at *
  generalize (nextW b true).getD 0 = n at *
  generalize (numD b).isSome = si at *
  generalize (numD n).isSome = sk at *
  generalize (numD c).isSome = sl at *
  generalize optD (numD b) = d1 at *
  generalize optD (numD n) = d2 at *
  generalize optD (numD c) = d3 at *
  obtain ⟨p1, m1, e1⟩ := d1
  obtain ⟨p2, m2, e2⟩ := d2
  obtain ⟨p3, m3, e3⟩ := d3
  simp only at N1 N2 N3 G
  have NX := Lib.hid NX
  have N1 := Lib.hid N1
  have N2 := Lib.hid N2
  have N3 := Lib.hid N3
  by_cases hall : ok = true ∧ si = true ∧ sk = true
  · obtain ⟨rfl, rfl, rfl⟩ := hall
    obtain ⟨g1, g2⟩ := G rfl rfl rfl
    have G1 := Lib.hid g1
    clear G g1
    cases sl
    · clear g2
      (go_enter Tryd.func3, Tryd.ntmps3; go_wp2_with fail; refine (awake09 w hT).mono ?_; rintro r w2 ⟨rfl, hb⟩; go_wp2_with fail; refine (NX.out _).mono ?_; rintro r w' ⟨rfl, rfl⟩; go_wp2_with fail; refine (N1.out _ (hT.below hb)).mono ?_; rintro r w3 ⟨A1, n1, c1, rfl, hA1, hb3⟩; have bw3 := below_on hb hb3; have bx1 := box_new w3 #[.bool p1, .slice A1 n1 c1, .int .i64 e1] 28; have bw4 := below_alloc (below_self w3) (.cells #[.bool p1, .slice A1 n1 c1, .int .i64 e1] 28); have hA1 := hA1.below bw4; have bw4 := below_on bw3 bw4; go_wp2_with fail; refine (N2.out _ (hT.below bw4)).mono ?_; rintro r w5 ⟨A2, n2, c2, rfl, hA2, hb5⟩; have bw5 := below_on bw4 hb5; have bx1 := bx1.later hb5; have hA1 := hA1.below hb5; have bx2 := box_new w5 #[.bool p2, .slice A2 n2 c2, .int .i64 e2] 28; have bw6 := below_alloc (below_self w5) (.cells #[.bool p2, .slice A2 n2 c2, .int .i64 e2] 28); have hA1 := hA1.below bw6; have hA2 := hA2.below bw6; have bx1 := bx1.later bw6; have bw6 := below_on bw5 bw6; go_wp2_with fail; refine (N3.out _ (hT.below bw6)).mono ?_; rintro r w7 ⟨A3, n3, c3, rfl, hA3, hb7⟩; have bw7 := below_on bw6 hb7; have bx1 := bx1.later hb7; have bx2 := bx2.later hb7; have hA1 := hA1.below hb7; have hA2 := hA2.below hb7; have bx3 := box_new w7 #[.bool p3, .slice A3 n3 c3, .int .i64 e3] 28; have bw8 := below_alloc (below_self w7) (.cells #[.bool p3, .slice A3 n3 c3, .int .i64 e3] 28); have hA1 := hA1.below bw8; have hA2 := hA2.below bw8; have hA3 := hA3.below bw8; have bx1 := bx1.later bw8; have bx2 := bx2.later bw8; have bw8 := below_on bw7 bw8; clear hb3 hb5 hb7 bw3 bw4 bw5 bw6 bw7 N1 N2 N3 NX)
      have C1 := dcmp p1 p2 A1 A2 n1 c1 n2 c2 (wd m1) (wd m2) e1 e2 _ hA1 hA2
      rw [G1.out] at C1
      have C1 := Lib.hid C1
      obtain ⟨x0, x1, x2, _, _, _⟩ := bx1.cell3
      obtain ⟨y0, y1, y2, _, _, _⟩ := bx2.cell3
      go_wp2_with fail
      refine C1.out.mono ?_; rintro r w9 ⟨rfl, hb9⟩
      go_wp2_with fail
      go_ret
      exact ⟨rfl, below_on bw8 hb9⟩
    · obtain ⟨o, pp, hop, g3, g4⟩ := g2 rfl
      have G3 := Lib.hid g3
      have G4 := Lib.hid g4
      clear g2 g3 g4
      (go_enter Tryd.func3, Tryd.ntmps3; go_wp2_with fail; refine (awake09 w hT).mono ?_; rintro r w2 ⟨rfl, hb⟩; go_wp2_with fail; refine (NX.out _).mono ?_; rintro r w' ⟨rfl, rfl⟩; go_wp2_with fail; refine (N1.out _ (hT.below hb)).mono ?_; rintro r w3 ⟨A1, n1, c1, rfl, hA1, hb3⟩; have bw3 := below_on hb hb3; have bx1 := box_new w3 #[.bool p1, .slice A1 n1 c1, .int .i64 e1] 28; have bw4 := below_alloc (below_self w3) (.cells #[.bool p1, .slice A1 n1 c1, .int .i64 e1] 28); have hA1 := hA1.below bw4; have bw4 := below_on bw3 bw4; go_wp2_with fail; refine (N2.out _ (hT.below bw4)).mono ?_; rintro r w5 ⟨A2, n2, c2, rfl, hA2, hb5⟩; have bw5 := below_on bw4 hb5; have bx1 := bx1.later hb5; have hA1 := hA1.below hb5; have bx2 := box_new w5 #[.bool p2, .slice A2 n2 c2, .int .i64 e2] 28; have bw6 := below_alloc (below_self w5) (.cells #[.bool p2, .slice A2 n2 c2, .int .i64 e2] 28); have hA1 := hA1.below bw6; have hA2 := hA2.below bw6; have bx1 := bx1.later bw6; have bw6 := below_on bw5 bw6; go_wp2_with fail; refine (N3.out _ (hT.below bw6)).mono ?_; rintro r w7 ⟨A3, n3, c3, rfl, hA3, hb7⟩; have bw7 := below_on bw6 hb7; have bx1 := bx1.later hb7; have bx2 := bx2.later hb7; have hA1 := hA1.below hb7; have hA2 := hA2.below hb7; have bx3 := box_new w7 #[.bool p3, .slice A3 n3 c3, .int .i64 e3] 28; have bw8 := below_alloc (below_self w7) (.cells #[.bool p3, .slice A3 n3 c3, .int .i64 e3] 28); have hA1 := hA1.below bw8; have hA2 := hA2.below bw8; have hA3 := hA3.below bw8; have bx1 := bx1.later bw8; have bx2 := bx2.later bw8; have bw8 := below_on bw7 bw8; clear hb3 hb5 hb7 bw3 bw4 bw5 bw6 bw7 N1 N2 N3 NX)
      have C1 := dcmp p1 p2 A1 A2 n1 c1 n2 c2 (wd m1) (wd m2) e1 e2 _ hA1 hA2
      rw [G1.out] at C1
      have C1 := Lib.hid C1
      obtain ⟨x0, x1, x2, _, _, _⟩ := bx1.cell3
      obtain ⟨y0, y1, y2, _, _, _⟩ := bx2.cell3
      go_wp2_with fail
      refine C1.out.mono ?_; rintro r w9 ⟨rfl, hb9⟩
      have bx1 := bx1.later hb9
      have bx2 := bx2.later hb9
      have bx3 := bx3.later hb9
      have hA1 := hA1.below hb9
      have hA2 := hA2.below hb9
      have hA3 := hA3.below hb9
      have bw9 := below_on bw8 hb9
      have C2 := dcmp p3 p1 A3 A1 n3 c3 n1 c1 (wd m3) (wd m1) e3 e1 w9 hA3 hA1
      rw [G3.out] at C2
      have C2 := Lib.hid C2
      clear C1 G1 hb9 bw8 x0 x1 x2 y0 y1 y2
      obtain ⟨x0, x1, x2, _, _, _⟩ := bx1.cell3
      obtain ⟨z0, z1, z2, _, _, _⟩ := bx3.cell3
      go_wp2_with fail
      refine C2.out.mono ?_; rintro r w10 ⟨rfl, hb10⟩
      have bx2 := bx2.later hb10
      have bx3 := bx3.later hb10
      have hA2 := hA2.below hb10
      have hA3 := hA3.below hb10
      have bw10 := below_on bw9 hb10
      have C3 := dcmp p3 p2 A3 A2 n3 c3 n2 c2 (wd m3) (wd m2) e3 e2 w10 hA3 hA2
      rw [G4.out] at C3
      have C3 := Lib.hid C3
      clear C2 G3 G4 hb10 bw9 x0 x1 x2 z0 z1 z2 bx1
      obtain ⟨y0, y1, y2, _, _, _⟩ := bx2.cell3
      obtain ⟨z0, z1, z2, _, _, _⟩ := bx3.cell3
      go_wp2_with fail
      refine C3.out.mono ?_; rintro r w11 ⟨rfl, hb11⟩
      have bw11 := below_on bw10 hb11
      rcases hop with hop | hop
      · have d1 : decide (o ≤ 0) = true := by simp; omega
        go_wp2_with fail
        go_ret
        exact ⟨rfl, bw11⟩
      · by_cases ho : o ≤ 0
        · have d1 : decide (o ≤ 0) = true := by simp; omega
          go_wp2_with fail
          go_ret
          exact ⟨rfl, bw11⟩
        · have d1 : decide (o ≤ 0) = false := by simp; omega
          have d2 : decide (pp ≥ 0) = true := by simp; omega
          go_wp2_with fail
          go_ret
          exact ⟨rfl, bw11⟩
  · clear G
    have hcase : ok = false ∨ (ok = true ∧ si = false) ∨ (ok = true ∧ si = true ∧ sk = false) := by
      cases ok <;> cases si <;> cases sk <;> simp_all
    rcases hcase with rfl | ⟨rfl, rfl⟩ | ⟨rfl, rfl, rfl⟩
    all_goals
      (go_enter Tryd.func3, Tryd.ntmps3; go_wp2_with fail; refine (awake09 w hT).mono ?_; rintro r w2 ⟨rfl, hb⟩; go_wp2_with fail; refine (NX.out _).mono ?_; rintro r w' ⟨rfl, rfl⟩; go_wp2_with fail; refine (N1.out _ (hT.below hb)).mono ?_; rintro r w3 ⟨A1, n1, c1, rfl, hA1, hb3⟩; have bw3 := below_on hb hb3; have bx1 := box_new w3 #[.bool p1, .slice A1 n1 c1, .int .i64 e1] 28; have bw4 := below_alloc (below_self w3) (.cells #[.bool p1, .slice A1 n1 c1, .int .i64 e1] 28); have hA1 := hA1.below bw4; have bw4 := below_on bw3 bw4; go_wp2_with fail; refine (N2.out _ (hT.below bw4)).mono ?_; rintro r w5 ⟨A2, n2, c2, rfl, hA2, hb5⟩; have bw5 := below_on bw4 hb5; have bx1 := bx1.later hb5; have hA1 := hA1.below hb5; have bx2 := box_new w5 #[.bool p2, .slice A2 n2 c2, .int .i64 e2] 28; have bw6 := below_alloc (below_self w5) (.cells #[.bool p2, .slice A2 n2 c2, .int .i64 e2] 28); have hA1 := hA1.below bw6; have hA2 := hA2.below bw6; have bx1 := bx1.later bw6; have bw6 := below_on bw5 bw6; go_wp2_with fail; refine (N3.out _ (hT.below bw6)).mono ?_; rintro r w7 ⟨A3, n3, c3, rfl, hA3, hb7⟩; have bw7 := below_on bw6 hb7; have bx1 := bx1.later hb7; have bx2 := bx2.later hb7; have hA1 := hA1.below hb7; have hA2 := hA2.below hb7; have bx3 := box_new w7 #[.bool p3, .slice A3 n3 c3, .int .i64 e3] 28; have bw8 := below_alloc (below_self w7) (.cells #[.bool p3, .slice A3 n3 c3, .int .i64 e3] 28); have hA1 := hA1.below bw8; have hA2 := hA2.below bw8; have hA3 := hA3.below bw8; have bx1 := bx1.later bw8; have bx2 := bx2.later bw8; have bw8 := below_on bw7 bw8; clear hb3 hb5 hb7 bw3 bw4 bw5 bw6 bw7 N1 N2 N3 NX)
      go_wp2_with fail
      go_ret
      exact ⟨rfl, bw8⟩
end Go.Proofs.YtbonbcmdafpceaaDoor
