/- Rounding in numbers: units, words, flags. -/
import Derived.Test.YtlmojkknlkfloaaDoorMP
import Derived.Test.YtlmojkknlkfloaaDoorMK
namespace Go.Proofs.YtlmojkknlkfloaaDoor
open Go.RowKit Num
set_option linter.unusedSimpArgs false
set_option linter.unusedVariables false
set_option maxRecDepth 100000

/-- Does a mode lead a number away from 0? -/
def outB (neg : Bool) (mode : Int) : Bool := (decide (mode = 2) && !neg) || (decide (mode = 3) && neg)
def inB (neg : Bool) (mode : Int) : Bool := decide (mode = 1) || (decide (mode = 2) && neg) || (decide (mode = 3) && !neg)
def nearB (mode : Int) : Bool := decide (mode = 0) || decide (mode = 4)
/-- Is one unit more taken, of v over 2 to the k? -/
def moreB (neg : Bool) (v : Int) (k : Nat) (mode : Int) : Bool :=
  if nearB mode then decide (v / 2 ^ (k - 1) % 2 = 1) && (!decide (k = 1) || decide (v / 2 ^ k % 2 = 1) || decide (mode = 4)) else outB neg mode
/-- A number in units of 2 to the E. -/
def unitsI (neg : Bool) (v e E mode : Int) : Int := if E ≤ e then v * 2 ^ (e - E).toNat else v / 2 ^ (E - e).toNat + (if moreB neg v (E - e).toNat mode then 1 else 0)
def overB (neg : Bool) (v e mode : Int) : Bool := decide (v ≠ 0) && decide (1024 < bl (unitsI neg v e (bl v + e - 53) mode) + (bl v + e - 53))
def gridE (v e : Int) : Int := max (bl v + e - 53) (-1074)
def tinyB (v e : Int) : Bool := decide (v ≠ 0) && decide (bl v + e ≤ -1022)
def exW (neg : Bool) (v e mode : Int) : Int :=
  if overB neg v e mode then sg neg + (if inB neg mode then 9218868437227405311 else 9218868437227405312)
  else sg neg + unitsI neg v e (gridE v e) mode + (gridE v e + 1074) * 4503599627370496
def exF (neg : Bool) (v e mode : Int) : Int := if overB neg v e mode then 3 else if gridE v e ≤ e then 0 else if tinyB v e then 5 else 1
/-- The word and the flags of a number. -/
def exactD (neg : Bool) (xs : List Int) (e mode : Int) : Option (Int × Int) :=
  if plainB neg xs e && (decide (0 ≤ mode) && decide (mode ≤ 4)) then (if xs.length = 0 then some (0, 0) else some (exW neg (val xs) e mode, exF neg (val xs) e mode)) else none
def RetX (o : Option (Int × Int)) (w : World) (r : Ending) (w' : World) : Prop :=
  r = .returned (.tuple #[.int .u64 (o.getD (0, 0)).1, .int .i64 (o.getD (0, 0)).2, .bool o.isSome]) ∧ Below w.heap.size w w'
theorem pw53 : pw 53 = 9007199254740992 := by decide
theorem pw52 : pw 52 = 4503599627370496 := by decide
theorem units_range {neg : Bool} {v e E mode : Int} (hv : 0 < v) (hE : bl v + e - 53 ≤ E) :
    0 ≤ unitsI neg v e E mode ∧ unitsI neg v e E mode ≤ 9007199254740992 ∧ (E = bl v + e - 53 → 4503599627370496 ≤ unitsI neg v e E mode) := by
  obtain ⟨a, ha, h0, h1⟩ := bl_spec hv
  unfold unitsI
  by_cases c : E ≤ e
  · rw [if_pos c]
    obtain ⟨t0, t1⟩ := mul_bl (k := (e - E).toNat) hv
    have u0 : (0 : Int) < v * 2 ^ (e - E).toNat := Int.mul_pos hv (Int.pow_pos (by decide))
    have u1 := pw_le (a := (bl v + ((e - E).toNat : Nat)).toNat) (b := 53) (by omega)
    rw [pw53] at u1
    refine ⟨by omega, by omega, fun h => ?_⟩
    have u2 := pw_le (a := 52) (b := (bl v - 1 + ((e - E).toNat : Nat)).toNat) (by omega)
    rw [pw52] at u2
    omega
  · rw [if_neg c]
    have hk : (((E - e).toNat : Nat) : Int) = E - e := by omega
    generalize (E - e).toNat = k at *
    have hp := pw_pos k
    have q0 : 0 ≤ v / pw k := Int.ediv_nonneg (by omega) (by omega)
    have q1 : v / pw k < 9007199254740992 := by
      refine Int.ediv_lt_of_lt_mul hp ?_
      rw [← pw53, ← pw_add]
      have := pw_le (a := a + 1) (b := 53 + k) (by omega)
      omega
    have q2 : E = bl v + e - 53 → 4503599627370496 ≤ v / pw k := by
      intro h
      refine (Int.le_ediv_iff_mul_le hp).2 ?_
      rw [← pw52, ← pw_add]
      have := pw_le (a := 52 + k) (b := a) (by omega)
      omega
    show 0 ≤ v / pw k + _ ∧ v / pw k + _ ≤ _ ∧ (_ → _ ≤ v / pw k + _)
    cases moreB neg v k mode <;> simp only [Bool.false_eq_true, if_false, if_true] <;> refine ⟨by omega, by omega, fun h => ?_⟩ <;> have := q2 h <;> omega
theorem over_low {neg : Bool} {v e mode : Int} (h : bl v + e < 1024) : overB neg v e mode = false := by
  unfold overB
  by_cases h0 : v = 0
  · simp [h0]
  · by_cases hv : 0 < v
    · obtain ⟨r0, r1, -⟩ := units_range (neg := neg) (mode := mode) (e := e) (E := bl v + e - 53) hv (Int.le_refl _)
      have := bl_lt (v := unitsI neg v e (bl v + e - 53) mode) (a := 54) r0 (by rw [show pw 54 = 18014398509481984 from by decide]; omega)
      rw [decide_eq_false (p := 1024 < _) (by omega), Bool.and_false]
    · have hb : bl v = 0 := by
        have : v.toNat = 0 := by omega
        unfold bl; rw [this]; rfl
      have hz : unitsI neg v e (bl v + e - 53) mode ≤ 0 := by
        unfold unitsI
        rw [if_pos (by omega)]
        have : (0 : Int) < 2 ^ (e - (bl v + e - 53)).toNat := Int.pow_pos (by decide)
        exact Int.mul_nonpos_of_nonpos_of_nonneg (by omega) (by omega)
      have hb2 : bl (unitsI neg v e (bl v + e - 53) mode) = 0 := by
        generalize unitsI neg v e (bl v + e - 53) mode = q at *
        have : q.toNat = 0 := by omega
        unfold bl; rw [this]; rfl
      rw [decide_eq_false (p := 1024 < _) (by omega), Bool.and_false]
theorem grid_fit {neg : Bool} {v e mode : Int} (hv : 0 < v) (h : overB neg v e mode = false) :
    -1074 ≤ gridE v e ∧ gridE v e ≤ 971 ∧ bl (unitsI neg v e (gridE v e) mode) + gridE v e ≤ 1024 ∧ (gridE v e = -1074 ∨ 4503599627370496 ≤ unitsI neg v e (gridE v e) mode) := by
  have hg : bl v + e - 53 ≤ gridE v e := by unfold gridE; omega
  have hg1 : -1074 ≤ gridE v e := by unfold gridE; omega
  obtain ⟨r0, r1, r2⟩ := units_range (neg := neg) (mode := mode) hv hg
  by_cases c : gridE v e = bl v + e - 53
  · have u := r2 c
    have hb : 53 ≤ bl (unitsI neg v e (gridE v e) mode) := by
      obtain ⟨b, hb, b0, b1⟩ := bl_spec (v := unitsI neg v e (gridE v e) mode) (by omega)
      have := pw_lt_iff (a := 52) (b := b + 1) |>.1 (by rw [pw52]; omega)
      omega
    unfold overB at h
    rw [← c] at h
    rw [Bool.and_eq_false_iff] at h
    rcases h with h | h
    · simp at h; omega
    · have h := of_decide_eq_false h
      exact ⟨hg1, by omega, by omega, .inr u⟩
  · have e1 : gridE v e = -1074 := by unfold gridE at *; omega
    have := bl_lt (v := unitsI neg v e (gridE v e) mode) (a := 54) r0 (by rw [show pw 54 = 18014398509481984 from by decide]; omega)
    exact ⟨hg1, by omega, by omega, .inl e1⟩
theorem odd_two53 {q : Int} (h0 : 0 < q) (h1 : q ≤ 9007199254740992) : ∃ (a : Nat) (u : Int), q = pw a * u ∧ u % 2 = 1 ∧ 0 < u ∧ u < 9007199254740992 ∧ bl q = a + bl u ∧ (a : Int) ≤ 53 ∧ 1 ≤ bl u ∧ bl u ≤ 53 := by
  by_cases c : q = 9007199254740992
  · subst c
    have b1 : bl 1 = 1 := bl_unique (v := 1) (a := 0) (by decide) (by decide)
    have b2 : bl 9007199254740992 = 54 := bl_unique (v := 9007199254740992) (a := 53) (by decide) (by decide)
    exact ⟨53, 1, by decide, by decide, by decide, by decide, by rw [b1, b2]; decide, by decide, by omega, by omega⟩
  · obtain ⟨a, u, hs, hu, hp, hlt, hbl, ha, hpu, hb⟩ := odd_53 h0 (by omega)
    exact ⟨a, u, hs, hu, hp, hlt, hbl, ha, hpu, by omega⟩
/-- The word of q units of 2 to the E. -/
theorem word_units {q E : Int} (h0 : 0 < q) (h1 : q ≤ 9007199254740992) (hE0 : -1074 ≤ E) (hE1 : E ≤ 971) (hb : bl q + E ≤ 1024) (hn : E = -1074 ∨ 4503599627370496 ≤ q) :
    ∃ (a : Nat) (u : Int), q = pw a * u ∧ u % 2 = 1 ∧ 0 < u ∧ (a : Int) ≤ 53 ∧ u < 9007199254740992 ∧ (∀ neg, mkD neg q E = some ⟨neg, u, E + a⟩) ∧
      ∀ neg, wordD neg (wd u) (E + a) = some (sg neg + q + (E + 1074) * 4503599627370496) := by
  obtain ⟨a, u, hs, hu, hp, hlt, hbl, ha, hpu, hbu⟩ := odd_two53 h0 h1
  refine ⟨a, u, hs, hu, hp, ha, hlt, fun neg => mkD_odd neg hs hu hp (by omega) (by omega) (by omega) ha, fun neg => ?_⟩
  rw [word_odd neg hp hlt hu (by omega) (by omega)]
  unfold wordI
  rw [if_neg (by omega)]
  have hq2 : 4503599627370496 ≤ q → 53 ≤ bl q := by
    intro h
    obtain ⟨b, hb, b0, b1⟩ := bl_spec h0
    have := pw_lt_iff (a := 52) (b := b + 1) |>.1 (by rw [pw52]; omega)
    omega
  by_cases c : bl u + (E + a) ≤ -1022
  · rw [if_pos c]
    have e1 : E = -1074 := by
      rcases hn with h | h
      · exact h
      · have := hq2 h; omega
    rw [show (E + (a : Int) + 1074).toNat = a by omega, e1, hs, Int.mul_comm u]
    show some (sg neg + pw a * u) = _
    congr 1; omega
  · rw [if_neg c]
    have hq : 4503599627370496 ≤ q := by
      rcases hn with h | h
      · refine Decidable.byContradiction fun hh => ?_
        have := bl_lt (v := q) (a := 52) (by omega) (by rw [pw52]; omega)
        omega
      · exact h
    have h53 := hq2 hq
    by_cases c2 : q = 9007199254740992
    · have b2 : bl q = 54 := by rw [c2]; exact bl_unique (v := 9007199254740992) (a := 53) (by decide) (by decide)
      have b3 : u * 2 ^ (53 - bl u).toNat = 4503599627370496 := by
        obtain ⟨a', ha', d1, d2⟩ := bl_spec hp
        have hp0 := pw_pos a
        have : u * pw (53 - bl u).toNat * 2 = 9007199254740992 := by
          have e2 : pw a = pw (53 - bl u).toNat * 2 := by
            rw [show a = (53 - bl u).toNat + 1 by omega, pw_add]; rfl
          have := hs
          rw [e2, c2] at this
          rw [Int.mul_assoc, Int.mul_comm u, ← this]
        have : u * pw (53 - bl u).toNat = 4503599627370496 := by omega
        exact this
      rw [b3]
      congr 1; omega
    · have b2 := bl_top (v := q) hq (by omega)
      rw [show (53 - bl u).toNat = a by omega, Int.mul_comm u]
      show some (_ + pw a * u - _) = _
      rw [← hs]
      congr 1; omega
theorem sgn_inj {n : Bool} {x y : Int} (h : sgn n x = sgn n y) : x = y := by cases n <;> simp [sgn] at h <;> omega
theorem cmpI_zero {x y : Int} : cmpI x y = 0 ↔ x = y := by
  unfold cmpI
  split
  · simp; omega
  · split <;> simp <;> omega
/-- Whether what was rounded is what it was. -/
theorem cmp_units {neg : Bool} {v e E mode u : Int} {a : Nat} (hv : 0 < v) (ho : v % 2 = 1) (hs : unitsI neg v e E mode = pw a * u) : cmpD ⟨neg, u, E + a⟩ ⟨neg, v, e⟩ = 0 ↔ E ≤ e := by
  unfold unitsI at hs
  by_cases c : E ≤ e
  · rw [if_pos c] at hs
    rw [cmpD_at (L := E) (by show E ≤ E + (a : Int); omega) c, cmpI_zero]
    show sgn neg (u * pw (E + (a : Int) - E).toNat) = sgn neg (v * pw (e - E).toNat) ↔ _
    rw [show (E + (a : Int) - E).toNat = a by omega, Int.mul_comm u, ← hs]
    exact ⟨fun _ => c, fun _ => rfl⟩
  · rw [if_neg c] at hs
    rw [cmpD_at (L := e) (by show e ≤ E + (a : Int); omega) (Int.le_refl _), cmpI_zero]
    show sgn neg (u * pw (E + (a : Int) - e).toNat) = sgn neg (v * pw (e - e).toNat) ↔ _
    refine ⟨fun h => ?_, fun h => absurd h c⟩
    have h := sgn_inj h
    rw [show (e - e).toNat = 0 by omega, show pw 0 = 1 from rfl, Int.mul_one] at h
    exfalso
    rw [show (E + (a : Int) - e).toNat = (E + (a : Int) - e).toNat - 1 + 1 by omega, pw_add, show pw 1 = 2 from rfl, ← Int.mul_assoc] at h
    omega
theorem cmp_none {neg : Bool} {v e : Int} (hv : 0 < v) : cmpD Dy.zero ⟨neg, v, e⟩ ≠ 0 := by
  rw [cmpD_at (L := min 0 e) (by show min 0 e ≤ 0; omega) (by show min 0 e ≤ e; omega)]
  intro h
  have h := cmpI_zero.1 h
  have hl := lev_pos hv e (min 0 e)
  have z : sgn Dy.zero.neg (lev Dy.zero.m Dy.zero.e (min 0 e)) = 0 := by
    show sgn false (lev 0 0 _) = 0
    rw [lev_zero]; rfl
  rw [z] at h
  cases neg <;> simp [sgn] at h <;> omega
/-- The document's way to choose. -/
def moreR (neg : Bool) (v : Int) (k : Nat) (mode : Int) : Bool :=
  if mode = 0 then decide (0 < cmpI (v - v / 2 ^ k * 2 ^ k) (2 ^ (k - 1))) || (decide (cmpI (v - v / 2 ^ k * 2 ^ k) (2 ^ (k - 1)) = 0) && decide (v / 2 ^ k % 2 = 1))
  else if mode = 2 then !neg else if mode = 3 then neg else if mode = 4 then decide (0 ≤ cmpI (v - v / 2 ^ k * 2 ^ k) (2 ^ (k - 1))) else false
theorem half_bit {v : Int} (k : Nat) (hk : 0 < k) : v - v / pw k * pw k = v % pw k ∧ v % pw k = v / pw (k - 1) % 2 * pw (k - 1) + v % pw (k - 1) := by
  have e : pw k = pw (k - 1) * 2 := by
    conv => lhs; rw [show k = k - 1 + 1 by omega]
    rw [pw_add]; rfl
  have hp := pw_pos (k - 1)
  have h1 := Int.emod_def v (pw k)
  refine ⟨by rw [Int.mul_comm]; omega, ?_⟩
  have h2 := Int.emod_def v (pw (k - 1))
  have h3 : v / pw k = v / pw (k - 1) / 2 := by rw [e, Int.ediv_ediv_of_nonneg (by omega)]
  have h4 : v / pw (k - 1) = 2 * (v / pw (k - 1) / 2) + v / pw (k - 1) % 2 := by omega
  rw [h1, h2, h3, e]
  generalize v / pw (k - 1) / 2 = x at *
  generalize v / pw (k - 1) % 2 = y at *
  rw [h4]
  grind
theorem cmp_half {v : Int} {k : Nat} (hk : 0 < k) (ho : v % 2 = 1) :
    (v / pw (k - 1) % 2 = 1 → (k = 1 → cmpI (v - v / pw k * pw k) (pw (k - 1)) = 0) ∧ (k ≠ 1 → cmpI (v - v / pw k * pw k) (pw (k - 1)) = 1)) ∧ (v / pw (k - 1) % 2 ≠ 1 → cmpI (v - v / pw k * pw k) (pw (k - 1)) = -1) := by
  obtain ⟨h1, h2⟩ := half_bit (v := v) k hk
  have hp := pw_pos (k - 1)
  have m0 : 0 ≤ v % pw (k - 1) := Int.emod_nonneg _ (by omega)
  have m1 : v % pw (k - 1) < pw (k - 1) := Int.emod_lt_of_pos _ hp
  rw [h1, h2]
  refine ⟨fun h => ⟨fun c => ?_, fun c => ?_⟩, fun h => ?_⟩
  · rw [h]
    subst c
    have : pw (1 - 1) = 1 := rfl
    rw [this] at *
    refine cmpI_eq (by omega)
  · rw [h]
    refine cmpI_gt ?_
    have m2 : v % pw (k - 1) ≠ 0 := by
      intro hh
      have e : pw (k - 1) = 2 * pw (k - 2) := by
        rw [show k - 1 = 1 + (k - 2) by omega, pw_add]; rfl
      have h3 := Int.emod_def v (pw (k - 1))
      rw [hh, e, Int.mul_assoc] at h3
      omega
    omega
  · have : v / pw (k - 1) % 2 = 0 := by omega
    rw [this]
    exact cmpI_lt (by omega)
theorem more_eq {neg : Bool} {v : Int} {k : Nat} {mode : Int} (hk : 0 < k) (ho : v % 2 = 1) : moreR neg v k mode = moreB neg v k mode := by
  obtain ⟨h1, h2⟩ := cmp_half hk ho
  unfold moreR moreB nearB outB
  show (if mode = 0 then decide (0 < cmpI (v - v / pw k * pw k) (pw (k - 1))) || (decide (cmpI (v - v / pw k * pw k) (pw (k - 1)) = 0) && decide (v / 2 ^ k % 2 = 1))
    else if mode = 2 then !neg else if mode = 3 then neg else if mode = 4 then decide (0 ≤ cmpI (v - v / pw k * pw k) (pw (k - 1))) else false) =
    if (decide (mode = 0) || decide (mode = 4)) = true then decide (v / pw (k - 1) % 2 = 1) && (!decide (k = 1) || decide (v / 2 ^ k % 2 = 1) || decide (mode = 4)) else _
  by_cases b : v / pw (k - 1) % 2 = 1
  · obtain ⟨i1, i2⟩ := h1 b
    by_cases c : k = 1
    · rw [i1 c, decide_eq_true b, decide_eq_true c]
      by_cases m0 : mode = 0
      · simp [m0]
      · by_cases m4 : mode = 4
        · simp [m4]
        · by_cases m2 : mode = 2
          · simp [m2]
          · by_cases m3 : mode = 3 <;> simp [m0, m2, m3, m4]
    · rw [i2 c, decide_eq_true b, decide_eq_false c]
      by_cases m0 : mode = 0
      · simp [m0]
      · by_cases m4 : mode = 4
        · simp [m4]
        · by_cases m2 : mode = 2
          · simp [m2]
          · by_cases m3 : mode = 3 <;> simp [m0, m2, m3, m4]
  · rw [h2 b, decide_eq_false b]
    by_cases m0 : mode = 0
    · simp [m0]
    · by_cases m4 : mode = 4
      · simp [m4]
      · by_cases m2 : mode = 2
        · simp [m2]
        · by_cases m3 : mode = 3 <;> simp [m0, m2, m3, m4]
end Go.Proofs.YtlmojkknlkfloaaDoor
