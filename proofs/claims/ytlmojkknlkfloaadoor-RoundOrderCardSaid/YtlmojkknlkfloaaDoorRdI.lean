/- Rounding keeps the order, and stays between a word's neighbours: in words. -/
import Derived.Test.YtlmojkknlkfloaaDoorRdH
namespace Go.Proofs.YtlmojkknlkfloaaDoor
open Go.RowKit Num
set_option linter.unusedSimpArgs false
set_option linter.unusedVariables false
set_option maxRecDepth 100000

/-- The word of a number without its sign. -/
def magW (neg : Bool) (v e mode : Int) : Int :=
  if v = 0 then 0 else if 9218868437227405312 ≤ rawW neg v e mode then (if inB neg mode then 9218868437227405311 else 9218868437227405312) else rawW neg v e mode
theorem over_iff {neg : Bool} {v e mode : Int} (hv : 0 < v) : overB neg v e mode = decide (9218868437227405312 ≤ rawW neg v e mode) := by
  have hg : bl v + e - 53 ≤ gridE v e := by unfold gridE; omega
  obtain ⟨r0, r1, r2⟩ := units_range (neg := neg) (mode := mode) hv hg
  by_cases c : gridE v e = bl v + e - 53
  · have u := r2 c
    unfold overB rawW
    rw [decide_eq_true (p := v ≠ 0) (by omega), Bool.true_and, ← c]
    generalize unitsI neg v e (gridE v e) mode = q at *
    generalize gridE v e = E at *
    by_cases h53 : q = 9007199254740992
    · have b2 : bl q = 54 := by rw [h53]; exact bl_unique (v := 9007199254740992) (a := 53) (by decide) (by decide)
      rw [b2, h53]
      by_cases h : 1024 < 54 + E
      · rw [decide_eq_true h, decide_eq_true (by omega)]
      · rw [decide_eq_false h, decide_eq_false (by omega)]
    · rw [bl_top u (by omega)]
      by_cases h : 1024 < 53 + E
      · rw [decide_eq_true h, decide_eq_true (by omega)]
      · rw [decide_eq_false h, decide_eq_false (by omega)]
  · have e1 : gridE v e = -1074 := by unfold gridE at *; omega
    have e2 : bl v + e < 1024 := by unfold gridE at *; omega
    rw [over_low e2]
    unfold rawW
    have : ¬ 9218868437227405312 ≤ unitsI neg v e (gridE v e) mode + (gridE v e + 1074) * 4503599627370496 := by omega
    rw [decide_eq_false this]
theorem exact_mag {neg : Bool} {v e mode : Int} (hv : 0 < v) : exW neg v e mode = sg neg + magW neg v e mode := by
  unfold exW magW
  rw [over_iff hv, if_neg (show ¬ v = 0 by omega)]
  by_cases h : 9218868437227405312 ≤ rawW neg v e mode
  · rw [decide_eq_true h, if_pos rfl, if_pos h]
  · rw [decide_eq_false h, if_neg (by decide), if_neg h]
    unfold rawW; omega
/-- A word W's neighbours hold V between them (in units that are lower by s bits than words'). -/
structure Fit (V : Int) (s : Nat) (W : Int) : Prop where
  v0 : 0 ≤ V
  lo : 0 ≤ W
  hi : W ≤ 9218868437227405312
  down : 0 < W → mag (W - 1) * pw s < V
  up : W + 1 < 9218868437227405312 → V < mag (W + 1) * pw s
theorem fit {neg : Bool} {v e mode L : Int} (hv : 0 ≤ v) (ho : v ≠ 0 → v % 2 = 1) (hL : L ≤ e) (hL0 : L ≤ -1074) : Fit (lev v e L) (-1074 - L).toNat (magW neg v e mode) := by
  have hs := pw_pos (-1074 - L).toNat
  by_cases hz : v = 0
  · subst hz
    unfold magW
    rw [if_pos rfl, lev_zero]
    exact ⟨by omega, by omega, by omega, fun h => absurd h (by omega), fun _ => by
      have : mag (0 + 1) = 1 := by decide
      rw [this]; omega⟩
  · obtain ⟨n0, n1, n2, -⟩ := raw_near neg mode (by omega : 0 < v) (ho hz) hL hL0
    have hl := lev_pos (by omega : 0 < v) e L
    unfold magW
    rw [if_neg hz]
    by_cases h : 9218868437227405312 ≤ rawW neg v e mode
    · rw [if_pos h]
      have n1 := n1 (by omega)
      have le_of : ∀ x : Int, 0 ≤ x → x ≤ rawW neg v e mode - 1 → mag x * pw (-1074 - L).toNat < lev v e L := fun x h0 h => by
        have := Int.mul_le_mul_of_nonneg_right (mag_le h0 h) (show 0 ≤ pw (-1074 - L).toNat by omega)
        omega
      cases inB neg mode
      · exact ⟨by omega, by simp, by simp, fun _ => le_of _ (by simp) (by simp; omega), fun h => absurd h (by simp)⟩
      · exact ⟨by omega, by simp, by simp, fun _ => le_of _ (by simp) (by simp; omega), fun h => absurd h (by simp)⟩
    · rw [if_neg h]
      exact ⟨by omega, n0, by omega, n1, fun _ => n2⟩
theorem mag_mono (neg : Bool) {v e v' e' L mode : Int} (hv : 0 ≤ v) (ho : v ≠ 0 → v % 2 = 1) (hv' : 0 ≤ v') (ho' : v' ≠ 0 → v' % 2 = 1) (hL : L ≤ e) (hL' : L ≤ e') (hL0 : L ≤ -1074) (h : lev v e L ≤ lev v' e' L) :
    magW neg v e mode ≤ magW neg v' e' mode := by
  have f' := (fit (neg := neg) (mode := mode) hv' ho' hL' hL0).lo
  by_cases hz : v = 0
  · have : magW neg v e mode = 0 := by unfold magW; rw [if_pos hz]
    omega
  · have hl := lev_pos (by omega : 0 < v) e L
    have hz' : v' ≠ 0 := by intro hh; rw [hh, lev_zero] at h; omega
    have hm := raw_mono neg (mode := mode) (by omega : 0 < v) (ho hz) (by omega : 0 < v') (ho' hz') hL hL' hL0 h
    unfold magW
    rw [if_neg hz, if_neg hz']
    cases inB neg mode <;> simp only [Bool.false_eq_true, if_false, if_true] <;> (repeat' split) <;> omega
/-- What a word with its sign is. -/
theorem word_parts {neg : Bool} {W : Int} (h0 : 0 ≤ W) (h1 : W ≤ 9218868437227405312) :
    0 ≤ sg neg + W ∧ sg neg + W < 18446744073709551616 ∧ numV (sg neg + W) = sgn neg (mag W) ∧ negB (sg neg + W) = neg ∧ (sg neg + W) % 9223372036854775808 = W ∧ (expo (sg neg + W) = 2047 ↔ W = 9218868437227405312) ∧ (W = 9218868437227405312 → kindI (sg neg + W) = 3) ∧ (kindI (sg neg + W) = 0 ↔ W = 0) ∧ (W < 9218868437227405312 → kindI (sg neg + W) ≠ 3 ∧ kindI (sg neg + W) ≠ 4) := by
  have r0 : 0 ≤ sg neg + W := by unfold sg; split <;> omega
  have r1 : sg neg + W < 18446744073709551616 := by unfold sg; split <;> omega
  obtain ⟨k0, k3, k4, -⟩ := kind_size (sg neg + W) r0 r1
  have hn : negB (sg neg + W) = neg := by
    unfold negB sg
    cases neg
    · simp; omega
    · simp; omega
  have hm : (sg neg + W) % 9223372036854775808 = W := by unfold sg; split <;> omega
  have hx : expo (sg neg + W) = 2047 ↔ W = 9218868437227405312 := by
    unfold expo sg
    split <;> constructor <;> intro h <;> omega
  unfold size63 at k0 k3 k4
  rw [hm] at k0 k3 k4
  refine ⟨r0, r1, by unfold numV; rw [hn, hm], hn, hm, hx, fun h => k3.2 h, k0, fun h => ⟨fun hh => ?_, fun hh => ?_⟩⟩
  · have := k3.1 hh; omega
  · have := k4.1 hh; omega
theorem num_none {b : Int} (h0 : 0 ≤ b) (h1 : b < 18446744073709551616) : numD b = none → expo b = 2047 := by
  intro h
  refine Decidable.byContradiction fun hx => ?_
  unfold numD at h
  rw [if_neg hx] at h
  have hf := frac_range b
  have he := expo_range b
  have some_of : ∀ q E : Int, 0 ≤ q → q < 9007199254740992 → -1074 ≤ E → E ≤ 1000 → mkD (negB b) q E ≠ none := by
    intro q E a0 a1 a2 a3
    by_cases hq : q = 0
    · unfold mkD; rw [if_pos hq]; simp
    · obtain ⟨a, u, hs, hu, hp, hlt, -, ha, -, -⟩ := odd_53 (v := q) (by omega) a1
      rw [mkD_odd _ hs hu hp (by omega) (by omega) (by omega) ha]; simp
  split at h
  · exact some_of _ _ (by omega) (by omega) (by omega) (by omega) h
  · exact some_of _ _ (by omega) (by omega) (by omega) (by omega) h
/-- A plain number against a word's. -/
theorem cmp_word {p : Bool} {xs : List Int} {e L b : Int} {d : Dy} (hp : plainB p xs e = true) (hL : L ≤ e) (hL0 : L ≤ -1074) (h : numD b = some d) :
    cmpR p d.neg xs (wd d.m) e d.e = .tuple #[.int .i64 (cmpI (sgn p (lev (val xs) e L)) (numV b * pw (-1074 - L).toNat)), .bool true] ∧
      cmpR d.neg p (wd d.m) xs d.e e = .tuple #[.int .i64 (cmpI (numV b * pw (-1074 - L).toNat) (sgn p (lev (val xs) e L))), .bool true] := by
  obtain ⟨a1, a2, a3, a4⟩ := num_V h
  have hd : sgn d.neg (lev d.m d.e L) = numV b * pw (-1074 - L).toNat := by
    rw [lev_down (L := -1074) hL0 a1, sgn_mul, a2]
  have c1 := cmpD_at (a := ⟨p, val xs, e⟩) (b := d) (L := L) hL (by omega)
  have c2 := cmpD_at (a := d) (b := ⟨p, val xs, e⟩) (L := L) (by omega) hL
  rw [hd] at c1 c2
  unfold cmpR
  rw [a3, hp, val_wd _ a4]
  exact ⟨by rw [← c1]; rfl, by rw [← c2]; rfl⟩
theorem fit_next {neg : Bool} {V W : Int} {s : Nat} (h : Fit V s W) (hW : W < 9218868437227405312) :
    ∃ u l, nextW (sg neg + W) true = some u ∧ nextW (sg neg + W) false = some l ∧ (0 ≤ u ∧ u < 18446744073709551616) ∧ (0 ≤ l ∧ l < 18446744073709551616) ∧
      (expo u ≠ 2047 → sgn neg V < numV u * pw s) ∧ (expo l ≠ 2047 → numV l * pw s < sgn neg V) := by
  obtain ⟨r0, r1, -, hn, -, -, -, k0, k34⟩ := word_parts (neg := neg) h.lo h.hi
  obtain ⟨n3, n4⟩ := k34 hW
  have hs := pw_pos s
  have h0 := h.v0
  have v1 : numV 1 = 1 := by decide
  have v2 : numV 9223372036854775809 = -1 := by decide
  have c1 : ¬ (kindI (sg neg + W) = 4 ∨ (kindI (sg neg + W) = 3 ∧ neg ≠ true)) := fun g => g.elim n4 fun g => n3 g.1
  have c2 : ¬ (kindI (sg neg + W) = 4 ∨ (kindI (sg neg + W) = 3 ∧ neg ≠ false)) := fun g => g.elim n4 fun g => n3 g.1
  unfold nextW
  rw [hn, if_neg c1, if_neg c2]
  by_cases hz : W = 0
  · rw [if_pos (k0.2 hz), if_pos (k0.2 hz)]
    have hu := h.up (by omega)
    rw [hz, show mag (0 + 1) = 1 from by decide] at hu
    refine ⟨1, 9223372036854775809, by simp, by simp, by omega, by omega, fun _ => ?_, fun _ => ?_⟩
    · rw [v1]; cases neg <;> simp only [sgn, Bool.false_eq_true, if_false, if_true] <;> omega
    · rw [v2]; cases neg <;> simp only [sgn, Bool.false_eq_true, if_false, if_true] <;> omega
  · have hk : ¬ kindI (sg neg + W) = 0 := fun hh => hz (k0.1 hh)
    rw [if_neg hk, if_neg hk]
    have lo := h.lo
    have hd := h.down (by omega)
    obtain ⟨a0, a1, a2, -, -, a5, -⟩ := word_parts (neg := neg) (W := W - 1) (by omega) (by omega)
    obtain ⟨b0, b1, b2, -, -, b5, -⟩ := word_parts (neg := neg) (W := W + 1) (by omega) (by omega)
    have e1 : sg neg + (W - 1) = sg neg + W - 1 := by omega
    have e2 : sg neg + (W + 1) = sg neg + W + 1 := by omega
    rw [e1] at a0 a1 a2 a5
    rw [e2] at b0 b1 b2 b5
    have hup : expo (sg neg + W + 1) ≠ 2047 → V < mag (W + 1) * pw s := fun hx => h.up (by
      have : ¬ W + 1 = 9218868437227405312 := fun hh => hx (b5.2 hh)
      omega)
    cases neg
    · refine ⟨_, _, by rw [if_neg (by decide)], by rw [if_pos rfl], ⟨b0, b1⟩, ⟨a0, a1⟩, fun hx => ?_, fun hx => ?_⟩
      · rw [b2]; exact hup hx
      · rw [a2]; exact hd
    · refine ⟨_, _, by rw [if_pos rfl], by rw [if_neg (by decide)], ⟨a0, a1⟩, ⟨b0, b1⟩, fun hx => ?_, fun hx => ?_⟩
      · rw [a2]; simp only [sgn, if_true]; rw [Int.neg_mul]; omega
      · rw [b2]; simp only [sgn, if_true]; rw [Int.neg_mul]; have := hup hx; omega
/-- The word and what is known of it, of a plain number. -/
theorem exact_of {p : Bool} {xs : List Int} {e mode : Int} (hw : Wf xs) (hp : plainB p xs e = true) (m0 : 0 ≤ mode) (m1 : mode ≤ 4) :
    0 ≤ val xs ∧ (val xs ≠ 0 → val xs % 2 = 1) ∧ (p = true → 0 < val xs) ∧ ∃ F, exactD p xs e mode = some (sg p + magW p (val xs) e mode, F) := by
  obtain ⟨pd, -, hx, hv⟩ := plainB_parts hw hp
  have hz : xs.length = 0 → val xs = 0 := fun h => by rw [List.length_eq_zero_iff.1 h]; rfl
  refine ⟨pd.nn, fun h => (hv (by have := hz; omega)).2, fun h => ?_, ?_⟩
  · by_cases h0 : xs.length = 0
    · have := (pd.z (hz h0)).2
      simp only at this
      rw [h] at this; cases this
    · exact (hv (by omega)).1
  · unfold exactD
    rw [hp, decide_eq_true m0, decide_eq_true m1]
    simp only [Bool.and_self, if_true]
    by_cases h0 : xs.length = 0
    · rw [if_pos h0]
      have e1 := hz h0
      have e2 := (pd.z e1).2
      simp only at e2
      refine ⟨0, ?_⟩
      unfold magW
      rw [if_pos e1, e2]; rfl
    · rw [if_neg h0, exact_mag (hv (by omega)).1]
      exact ⟨_, rfl⟩
theorem order10 {p q : Bool} {xs ys : List Int} {e f mode : Int} (hw : Wf xs) (hw' : Wf ys) (hp : plainB p xs e = true) (hq : plainB q ys f = true) (m0 : 0 ≤ mode) (m1 : mode ≤ 4) (hc : cmpD ⟨p, val xs, e⟩ ⟨q, val ys, f⟩ ≤ 0) :
    ∃ X F Y G, exactD p xs e mode = some (X, F) ∧ exactD q ys f mode = some (Y, G) ∧ (0 ≤ X ∧ X < 18446744073709551616) ∧ (0 ≤ Y ∧ Y < 18446744073709551616) ∧
      (∀ d g, numD X = some d → numD Y = some g → ∃ c, cmpR d.neg g.neg (wd d.m) (wd g.m) d.e g.e = .tuple #[.int .i64 c, .bool true] ∧ c ≤ 0) ∧
      (numD X = none → kindI X = 3) ∧
      (∀ d, numD X = some d → ∃ u l, nextW X true = some u ∧ nextW X false = some l ∧ (0 ≤ u ∧ u < 18446744073709551616) ∧ (0 ≤ l ∧ l < 18446744073709551616) ∧
        (∀ h, numD u = some h → ∃ c, cmpR p h.neg xs (wd h.m) e h.e = .tuple #[.int .i64 c, .bool true] ∧ c < 0) ∧
        (∀ h, numD l = some h → ∃ c, cmpR h.neg p (wd h.m) xs h.e e = .tuple #[.int .i64 c, .bool true] ∧ c < 0)) := by
  obtain ⟨x0, x1, x2, F, hX⟩ := exact_of (mode := mode) hw hp m0 m1
  obtain ⟨y0, y1, y2, G, hY⟩ := exact_of (mode := mode) hw' hq m0 m1
  obtain ⟨L, hL⟩ : ∃ L, L = min e (min f (-1074)) := ⟨_, rfl⟩
  have l1 : L ≤ e := by omega
  have l2 : L ≤ f := by omega
  have l3 : L ≤ -1074 := by omega
  have fx := fit (neg := p) (mode := mode) x0 x1 l1 l3
  have fy := fit (neg := q) (mode := mode) y0 y1 l2 l3
  obtain ⟨a0, a1, a2, -, -, a5, a6, -⟩ := word_parts (neg := p) fx.lo fx.hi
  obtain ⟨b0, b1, b2, -, -, b5, b6, -⟩ := word_parts (neg := q) fy.lo fy.hi
  rw [cmpD_at (L := L) l1 l2] at hc
  have hc : cmpI (sgn p (lev (val xs) e L)) (sgn q (lev (val ys) f L)) ≤ 0 := hc
  have hle : sgn p (lev (val xs) e L) ≤ sgn q (lev (val ys) f L) := by
    refine Decidable.byContradiction fun hh => ?_
    rw [cmpI_gt (by omega)] at hc
    omega
  have hV : numV (sg p + magW p (val xs) e mode) ≤ numV (sg q + magW q (val ys) f mode) := by
    rw [a2, b2]
    have hx := mag_nonneg fx.lo
    have hy := mag_nonneg fy.lo
    have vx := fx.v0
    cases p <;> cases q <;> simp only [sgn, Bool.false_eq_true, if_false, if_true] at hle ⊢
    · exact mag_le fx.lo (mag_mono false x0 x1 y0 y1 l1 l2 l3 hle)
    · have := lev_pos (y2 rfl) f L; omega
    · omega
    · have := mag_le fy.lo (mag_mono true (mode := mode) y0 y1 x0 x1 l2 l1 l3 (by omega)); omega
  refine ⟨_, F, _, G, hX, hY, ⟨a0, a1⟩, ⟨b0, b1⟩, fun d g hd hg => ⟨_, cmp_V hd hg, cmpI_le hV⟩, fun hn => a6 (a5.1 (num_none a0 a1 hn)), fun d hd => ?_⟩
  have hlt : magW p (val xs) e mode < 9218868437227405312 := by
    have h1 := num_expo hd
    have h2 : ¬ magW p (val xs) e mode = 9218868437227405312 := fun hh => h1 (a5.2 hh)
    have := fx.hi
    omega
  obtain ⟨u, l, hu, hl, ru, rl, ku, kl⟩ := fit_next (neg := p) fx hlt
  refine ⟨u, l, hu, hl, ru, rl, fun h hh => ⟨_, (cmp_word hp l1 l3 hh).1, ?_⟩, fun h hh => ⟨_, (cmp_word hp l1 l3 hh).2, ?_⟩⟩
  · rw [cmpI_lt (ku (num_expo hh))]; decide
  · rw [cmpI_lt (kl (num_expo hh))]; decide
end Go.Proofs.YtlmojkknlkfloaaDoor
