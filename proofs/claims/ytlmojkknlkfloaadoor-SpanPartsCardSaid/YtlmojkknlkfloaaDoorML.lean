/- Words that stand for binary64 numbers: kinds, signs, numbers, neighbours; the program's functions and the document's. -/
import Derived.Test.YtlmojkknlkfloaaDoorMK
import Derived.Test.YtlmojkknlkfloaaDoorMD
namespace Go.Proofs.YtlmojkknlkfloaaDoor
open Go.RowKit Num
set_option maxRecDepth 100000

theorem and_mask {x : Int} (k : Nat) (hk : k ≤ 64) (h0 : 0 ≤ x) (h1 : x < 18446744073709551616) : bits .and .u64 x (pw k - 1) = x % pw k := by
  obtain ⟨n, rfl⟩ := Int.eq_ofNat_of_zero_le h0
  have h2 : (2 : Nat) ^ k ≤ 2 ^ 64 := Nat.pow_le_pow_right (by decide) hk
  have h3 : 0 < (2 : Nat) ^ k := Nat.two_pow_pos k
  have e : pw k - 1 = ((2 ^ k - 1 : Nat) : Int) := by
    have : pw k = ((2 ^ k : Nat) : Int) := by unfold pw; simp
    rw [this]; omega
  rw [e, bits_and_u64_nat n _ (by omega) (by omega), Nat.and_two_pow_sub_one_eq_mod]
  have : pw k = ((2 ^ k : Nat) : Int) := by unfold pw; simp
  rw [this]; simp
theorem and_2047 {x : Int} (h0 : 0 ≤ x) (h1 : x < 18446744073709551616) : bits .and .u64 x 2047 = x % 2048 := and_mask 11 (by decide) h0 h1
theorem and_unit {x : Int} (h0 : 0 ≤ x) (h1 : x < 18446744073709551616) : bits .and .u64 x 4503599627370495 = x % 4503599627370496 := and_mask 52 (by decide) h0 h1
theorem and_top {x : Int} (h0 : 0 ≤ x) (h1 : x < 18446744073709551616) : bits .and .u64 x 9223372036854775808 = if 9223372036854775808 ≤ x then 9223372036854775808 else 0 := by
  obtain ⟨n, rfl⟩ := Int.eq_ofNat_of_zero_le h0
  have e := bits_and_u64_nat n 9223372036854775808 (by omega) (by omega)
  have e4 : ((9223372036854775808 : Nat) : Int) = 9223372036854775808 := rfl
  rw [e4] at e
  rw [e]
  by_cases h : 9223372036854775808 ≤ n
  · rw [if_pos (by omega)]
    have e2 : n &&& 9223372036854775808 = 9223372036854775808 := by
      have hx := Nat.and_or_distrib_right (x := n % 2 ^ 63) (y := 2 ^ 63) (z := 2 ^ 63)
      have h1 : n % 2 ^ 63 ||| 2 ^ 63 = n := by
        have := Nat.two_pow_add_eq_or_of_lt (show n % 2 ^ 63 < 2 ^ 63 from Nat.mod_lt _ (by decide)) 1
        rw [Nat.mul_one] at this
        rw [Nat.or_comm, ← this]; omega
      have h2 : n % 2 ^ 63 &&& 2 ^ 63 = 0 := by
        apply Nat.eq_of_testBit_eq; intro i
        rw [Nat.testBit_and, Nat.testBit_two_pow, Nat.zero_testBit]
        by_cases hi : 63 = i
        · subst hi; rw [Nat.testBit_mod_two_pow]; simp
        · simp [hi]
      rw [h1, h2, Nat.and_self, Nat.zero_or] at hx
      exact hx
    rw [e2]; rfl
  · rw [if_neg (by omega)]
    have e2 : n &&& 9223372036854775808 = 0 := by
      apply Nat.eq_of_testBit_eq; intro i
      have : (9223372036854775808 : Nat) = 2 ^ 63 := rfl
      rw [this, Nat.testBit_and, Nat.testBit_two_pow, Nat.zero_testBit]
      by_cases hi : 63 = i
      · subst hi; rw [Nat.testBit_lt_two_pow (by omega)]; simp
      · simp [hi]
    rw [e2]; rfl
/-- A word's exponent, fraction, sign. -/
def expo (b : Int) : Int := b / 4503599627370496 % 2048
def frac (b : Int) : Int := b % 4503599627370496
def negB (b : Int) : Bool := decide (9223372036854775808 ≤ b)
def kindI (b : Int) : Int := if expo b = 2047 then (if frac b = 0 then 3 else 4) else if expo b = 0 then (if frac b = 0 then 0 else 1) else 2
theorem expo_range (b : Int) : 0 ≤ expo b ∧ expo b < 2048 := by unfold expo; omega
theorem frac_range (b : Int) : 0 ≤ frac b ∧ frac b < 4503599627370496 := by unfold frac; omega

theorem bsplit (b : Int) (w : World) (h0 : 0 ≤ b) (h1 : b < 18446744073709551616) :
    Calls Tryd.prog 70 #[.int .u64 b] w fun r w' => r = .returned (.tuple #[.int .i64 (expo b), .int .u64 (frac b)]) ∧ w = w' := by
  have a1 := and_2047 (x := b / 4503599627370496) (by omega) (by omega)
  have a2 := and_unit h0 h1
  have A1 := Lib.hid a1
  have A2 := Lib.hid a2
  clear a1 a2
  go_enter Tryd.func70, Tryd.ntmps70
  go_wp2
  go_ret2
  refine ⟨?_, rfl⟩
  have e1 : wrap64 (bits .and .u64 (b / 4503599627370496) 2047) = expo b := by
    rw [A1.out]; unfold wrap64 expo; omega
  have e2 : bits .and .u64 b 4503599627370495 = frac b := A2.out
  rw [← e1, ← e2]; rfl
theorem bneg (b : Int) (w : World) (h0 : 0 ≤ b) (h1 : b < 18446744073709551616) :
    Calls Tryd.prog 71 #[.int .u64 b] w fun r w' => r = .returned (.bool (negB b)) ∧ w = w' := by
  have A1 := Lib.hid (and_top h0 h1)
  go_enter Tryd.func71, Tryd.ntmps71
  go_wp2
  go_ret
  refine ⟨?_, rfl⟩
  have e : (bits .and .u64 b 9223372036854775808 != 0) = negB b := by
    rw [A1.out]; unfold negB
    by_cases h : 9223372036854775808 ≤ b
    · rw [if_pos h, decide_eq_true h]; rfl
    · rw [if_neg h, decide_eq_false h]; rfl
  rw [← e]; rfl
theorem bkind (b : Int) (w : World) (h0 : 0 ≤ b) (h1 : b < 18446744073709551616) :
    Calls Tryd.prog 15 #[.int .u64 b] w fun r w' => r = .returned (.int .i64 (kindI b)) ∧ w = w' := by
  have K : Hid (kindI b = if expo b = 2047 then (if frac b = 0 then 3 else 4) else if expo b = 0 then (if frac b = 0 then 0 else 1) else 2) := rfl
  have C := bsplit b w h0 h1
  generalize expo b = x at *
  generalize frac b = f at *
  have HC := Lib.hid C
  clear C
  go_enter Tryd.func15, Tryd.ntmps15
  go_wp2_with fail
  refine HC.out.mono ?_
  rintro r w' ⟨rfl, rfl⟩
  go_wp2
  all_goals go_ret
  all_goals refine ⟨ret_i64 ?_, rfl⟩
  all_goals rw [K.out]
  all_goals (repeat' split) <;> first | rfl | omega | ((have hb : (f != 0) = true := by assumption); simp at hb; omega) | ((have hb : (f != 0) = false := by assumption); simp at hb; omega) | ((have hb : (x != 0) = true := by assumption); simp at hb; omega) | ((have hb : (x != 0) = false := by assumption); simp at hb; omega) | ((have hb : (x == 2047) = true := by assumption); simp at hb; omega) | ((have hb : (x == 2047) = false := by assumption); simp at hb; omega)
def nextW (b : Int) (up : Bool) : Option Int :=
  if kindI b = 4 ∨ (kindI b = 3 ∧ negB b ≠ up) then none
  else if kindI b = 0 then some (if up then 1 else 9223372036854775809)
  else if negB b = up then some (b - 1) else some (b + 1)
/-- A word, and whether there is one. -/
def RetW (o : Option Int) (w : World) (r : Ending) (w' : World) : Prop := r = .returned (.tuple #[.int .u64 (o.getD 0), .bool o.isSome]) ∧ w = w'
theorem kind_pos {b : Int} (h : 0 ≤ b) (hk : kindI b ≠ 0) : 1 ≤ b := by
  by_cases h0 : b = 0
  · subst h0; exact absurd (by decide) hk
  · omega
theorem kind_lt {b : Int} (h : b < 18446744073709551616) (hk : kindI b ≠ 4) : b + 1 < 18446744073709551616 := by
  by_cases h0 : b = 18446744073709551615
  · subst h0; exact absurd (by decide) hk
  · omega
theorem bnext (b : Int) (up : Bool) (w : World) (h0 : 0 ≤ b) (h1 : b < 18446744073709551616) :
    Calls Tryd.prog 17 #[.int .u64 b, .bool up] w (RetW (nextW b up) w) := by
  have N : Hid (nextW b up = if kindI b = 4 ∨ (kindI b = 3 ∧ negB b ≠ up) then none else if kindI b = 0 then some (if up then 1 else 9223372036854775809) else if negB b = up then some (b - 1) else some (b + 1)) := rfl
  have p1 := kind_pos h0
  have p2 := kind_lt h1
  have C := bkind b w h0 h1
  have D := bneg b w h0 h1
  generalize nextW b up = o at *
  generalize kindI b = k at *
  generalize negB b = nb at *
  have HC := Lib.hid C
  have HD := Lib.hid D
  clear C D
  have n := N.out
  clear N
  by_cases k4 : k = 4
  · rw [if_pos (.inl k4)] at n
    subst n; subst k4
    go_enter Tryd.func17, Tryd.ntmps17
    go_wp2_with (first | (go_at_call 15; refine HC.out.mono ?_; rintro r w' ⟨rfl, rfl⟩) | (go_at_call 71; refine HD.out.mono ?_; rintro r w' ⟨rfl, rfl⟩))
    go_ret2
    exact ⟨rfl, rfl⟩
  · have d4 : (k == 4) = false := by simp [k4]
    have q2 := p2 k4
    by_cases k0 : k = 0
    · have d3 : (k == 3) = false := by simp [k0]
      rw [if_neg (by omega), if_pos k0] at n
      subst n; subst k0
      clear p1 p2 k4
      cases up
      all_goals
        go_enter Tryd.func17, Tryd.ntmps17
        go_wp2_with (first | (go_at_call 15; refine HC.out.mono ?_; rintro r w' ⟨rfl, rfl⟩) | (go_at_call 71; refine HD.out.mono ?_; rintro r w' ⟨rfl, rfl⟩))
        go_ret2
        exact ⟨rfl, rfl⟩
    · have d0 : (k == 0) = false := by simp [k0]
      have q1 := p1 k0
      clear p1 p2
      by_cases k3 : k = 3
      · have d3 : (k == 3) = true := by simp [k3]
        cases nb <;> cases up
        all_goals
          simp [k3] at n
          subst n
          clear k0 k4 k3
          go_enter Tryd.func17, Tryd.ntmps17
          go_wp2_with (first | (go_at_call 15; refine HC.out.mono ?_; rintro r w' ⟨rfl, rfl⟩) | (go_at_call 71; refine HD.out.mono ?_; rintro r w' ⟨rfl, rfl⟩))
          go_ret2
          exact ⟨rfl, rfl⟩
      · have d3 : (k == 3) = false := by simp [k3]
        cases nb <;> cases up
        all_goals
          simp [k3, k4, k0] at n
          subst n
          clear k0 k4 k3
          go_enter Tryd.func17, Tryd.ntmps17
          go_wp2_with (first | (go_at_call 15; refine HC.out.mono ?_; rintro r w' ⟨rfl, rfl⟩) | (go_at_call 71; refine HD.out.mono ?_; rintro r w' ⟨rfl, rfl⟩))
          go_ret2
          exact ⟨rfl, rfl⟩
end Go.Proofs.YtlmojkknlkfloaaDoor
/- Same; a word's number. -/
namespace Go.Proofs.YtlmojkknlkfloaaDoor
open Go.RowKit Num
set_option maxRecDepth 100000

def sameB (p q : Bool) (xs ys : List Int) (e f : Int) : Bool := p == q && (e == f && decide (xs = ys))
theorem same02 (p q : Bool) (A A' : Option Addr) (n c n' c' : Nat) (xs ys : List Int) (e f : Int) (w : World) (h : Arr w A n c xs) (h' : Arr w A' n' c' ys) :
    Calls Tryd.prog 79 #[.agg #[.bool p, .slice A n c, .int .i64 e], .agg #[.bool q, .slice A' n' c', .int .i64 f]] w fun r w' => r = .returned (.bool (sameB p q xs ys e f)) ∧ Below w.heap.size w w' := by
  have S : Hid (sameB p q xs ys e f = (p == q && (e == f && decide (xs = ys)))) := rfl
  generalize sameB p q xs ys e f = s at *
  generalize hx : decide (xs = ys) = d at *
  have HX := Lib.hid hx
  clear hx
  go_enter Tryd.func79, Tryd.ntmps79
  go_wp2_with fail
  · have hb : Below w.heap.size w ((w.alloc (.cells #[.bool q, .slice A n c, .int .i64 f] 24)).alloc (.cells #[.bool q, .slice A' n' c', .int .i64 f] 24)) := (by repeat (first | with_reducible assumption | exact below_self _ | refine below_set ?_ _ _ (by first | exact Nat.le_refl _ | omega | (simp; done) | (simp; omega)) _ | refine below_alloc ?_ _ | apply Below.drew | apply below_drewN))
    have z1 : p = q := by assumption
    have z2 : e = f := by assumption
    refine (same01 A A' n c n' c' xs ys _ (h.below hb) (h'.below hb)).mono ?_
    rintro r w' ⟨rfl, hs⟩
    have bw := hb.trans (hs.below _)
    have hs' : s = decide (xs = ys) := by rw [S.out, z1, z2, ← HX.out]; simp
    have HS := Lib.hid hs'
    clear hs'
    rw [HX.out]
    go_wp2_with fail
    go_ret
    exact ⟨by rw [HS.out, HX.out]; rfl, bw⟩
  · have z2 : ¬ e = f := by assumption
    have hs' : s = false := by rw [S.out]; simp [z2]
    go_ret
    exact ⟨by rw [hs']; first | rfl | simp [z2], (by repeat (first | with_reducible assumption | exact below_self _ | refine below_set ?_ _ _ (by first | exact Nat.le_refl _ | omega | (simp; done) | (simp; omega)) _ | refine below_alloc ?_ _ | apply Below.drew | apply below_drewN))⟩
  · have z2 : ¬ p = q := by assumption
    have hs' : s = false := by rw [S.out]; simp [z2]
    go_ret
    exact ⟨by rw [hs']; first | rfl | simp [z2], (by repeat (first | with_reducible assumption | exact below_self _ | refine below_set ?_ _ _ (by first | exact Nat.le_refl _ | omega | (simp; done) | (simp; omega)) _ | refine below_alloc ?_ _ | apply Below.drew | apply below_drewN))⟩
/-- What a word stands for. -/
def numD (b : Int) : Option Dy :=
  if expo b = 2047 then none
  else if expo b = 0 then mkD (negB b) (frac b) (-1074) else mkD (negB b) (frac b + 4503599627370496) (expo b - 1075)
theorem or_unit {f : Int} (h0 : 0 ≤ f) (h1 : f < 4503599627370496) : bits .or .u64 f 4503599627370496 = f + 4503599627370496 := by
  have h := or_add (a := f) (b := 1) (s := 52) (by decide) h0 h1 (by decide) (by decide)
  have e : (1 : Int) * pw 52 = 4503599627370496 := by decide
  rw [e] at h; exact h
theorem retD_set {w w4 : World} {o : Option Dy} {A : Option Addr} {n c g : Nat} {t : TypeId} {p : Bool} {A' : Option Addr} {n' c' : Nat} {e : Int} (h : Arr w4 A n c (wd (optD o).m)) (hb : Box w4 g #[.bool p, .slice A' n' c', .int .i64 e] t) (hw : Below w.heap.size w w4) (hg : w.heap.size ≤ g) :
    RetD o w (.returned (.tuple #[.agg #[.bool (optD o).neg, .slice A n c, .int .i64 (optD o).e], .bool o.isSome])) (((w4.setCell ⟨g, 0, none⟩ (.bool (optD o).neg)).setCell ⟨g, 1, none⟩ (.slice A n c)).setCell ⟨g, 2, none⟩ (.int .i64 (optD o).e)) :=
  ⟨A, n, c, rfl, h.set3 hb _ _ _ (by simp) (by simp), below_set (below_set (below_set hw _ _ hg _) _ _ hg _) _ _ hg _⟩
theorem number (b : Int) (w : World) (h0 : 0 ≤ b) (h1 : b < 18446744073709551616) (hT : Tz w) :
    Calls Tryd.prog 14 #[.int .u64 b] w (RetD (numD b) w) := by
  have N : Hid (numD b = if expo b = 2047 then none else if expo b = 0 then mkD (negB b) (frac b) (-1074) else mkD (negB b) (frac b + 4503599627370496) (expo b - 1075)) := rfl
  have b0 : Below w.heap.size w (w.alloc (.cells #[.bool false, .slice none 0 0, .int .i64 0] 24)) := below_alloc (below_self w) _
  have S := fun w => bsplit b w h0 h1
  have G := fun w => bneg b w h0 h1
  have r1 := expo_range b
  have r2 := frac_range b
  generalize numD b = o at *
  generalize expo b = x at *
  generalize frac b = f at *
  generalize negB b = nb at *
  have HS := Lib.hid S
  have HG := Lib.hid G
  clear S G
  have n := N.out
  clear N
  by_cases c1 : x = 2047
  · rw [if_pos c1] at n
    subst n; subst c1
    go_enter Tryd.func14, Tryd.ntmps14
    go_wp2_with (go_at_call 70; refine (HS.out _).mono ?_; rintro r w' ⟨rfl, rfl⟩)
    exact bodyPost_ret (v := .tuple #[.agg #[.bool false, .slice none 0 0, .int .i64 0], .bool false]) (by simp [results, Tryd.results14, go_sem]) rfl ⟨none, 0, 0, rfl, arr_no _, (by repeat (first | with_reducible assumption | exact below_self _ | refine below_set ?_ _ _ (by first | exact Nat.le_refl _ | omega | (simp; done) | (simp; omega)) _ | refine below_alloc ?_ _ | apply Below.drew | apply below_drewN))⟩
  · rw [if_neg c1] at n
    have d1 : (x == 2047) = false := by simp [c1]
    by_cases c2 : x = 0
    · rw [if_pos c2] at n
      subst c2
      have HN := Lib.hid n
      clear n
      have v0 := val_one f
      go_enter Tryd.func14, Tryd.ntmps14
      go_wp2_with (first | (go_at_call 70; refine (HS.out _).mono ?_; rintro r w' ⟨rfl, rfl⟩) | (go_at_call 71; refine (HG.out _).mono ?_; rintro r w' ⟨rfl, rfl⟩))
      have b1 := below_alloc b0 (.cells #[.int .u64 f] 27)
      refine (make nb _ 1 1 [f] (-1074) _ (arr_one (by simp) f r2.1 (by omega)) (by omega) (by omega) (by omega) (hT.below b1)).mono ?_
      rw [v0, ← HN.out]
      rintro r w4 ⟨A, n, c, rfl, hA, hb⟩
      have b4 := below_on b1 hb
      have bx := ((box_new w #[.bool false, .slice none 0 0, .int .i64 0] 24).below (below_new (Nat.le_refl _) (.cells #[.int .u64 f] 27)) (by simp)).later hb
      obtain ⟨k0, k1, k2, f0, f1, f2⟩ := bx.cell3
      go_wp2_with fail
      exact bodyPost_ret (v := .tuple #[.agg #[.bool (optD o).neg, .slice A n c, .int .i64 (optD o).e], .bool o.isSome]) (by simp [results, Tryd.results14, go_sem, k0, k1, k2]) rfl (retD_set hA bx b4 (Nat.le_refl _))
    · rw [if_neg c2] at n
      have d2 : decide (0 < x) = true := by simp; omega
      have HN := Lib.hid n
      have ho := Lib.hid (or_unit r2.1 r2.2)
      clear n
      go_enter Tryd.func14, Tryd.ntmps14
      go_wp2_with (first | (go_at_call 70; refine (HS.out _).mono ?_; rintro r w' ⟨rfl, rfl⟩) | (go_at_call 71; refine (HG.out _).mono ?_; rintro r w' ⟨rfl, rfl⟩))
      rw [ho.out]
      have b1 := below_alloc b0 (.cells #[.int .u64 (f + 4503599627370496)] 27)
      rw [show x - 1 - 1074 = x - 1075 from by omega]
      refine (make nb _ 1 1 [f + 4503599627370496] (x - 1075) _ (arr_one (by simp) _ (by omega) (by omega)) (by omega) (by omega) (by omega) (hT.below b1)).mono ?_
      rw [val_one, ← HN.out]
      rintro r w4 ⟨A, n, c, rfl, hA, hb⟩
      have b4 := below_on b1 hb
      have bx := ((box_new w #[.bool false, .slice none 0 0, .int .i64 0] 24).below (below_new (Nat.le_refl _) (.cells #[.int .u64 (f + 4503599627370496)] 27)) (by simp)).later hb
      obtain ⟨k0, k1, k2, f0, f1, f2⟩ := bx.cell3
      go_wp2_with fail
      exact bodyPost_ret (v := .tuple #[.agg #[.bool (optD o).neg, .slice A n c, .int .i64 (optD o).e], .bool o.isSome]) (by simp [results, Tryd.results14, go_sem, k0, k1, k2]) rfl (retD_set hA bx b4 (Nat.le_refl _))
end Go.Proofs.YtlmojkknlkfloaaDoor
