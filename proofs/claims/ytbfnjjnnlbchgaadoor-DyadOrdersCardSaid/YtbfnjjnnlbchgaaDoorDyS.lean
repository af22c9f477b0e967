/- Signed numbers on one exponent, and what is canonical of them. (No function of the program in sight.) -/
import Derived.Test.YtbfnjjnnlbchgaaDoorDyM
namespace Go.Proofs.YtbfnjjnnlbchgaaDoor
open Go.RowKit Num
set_option maxRecDepth 100000

/-- A number, counted in units of 2 to the L. -/
def sval (d : Dy) (L : Int) : Int := sgn d.neg (lev d.m d.e L)
/-- The number that is S units of 2 to the L. -/
def canD (S L : Int) : Dy := if S = 0 then Dy.zero else ⟨decide (S < 0), oddI (S.natAbs : Int), L + tz (S.natAbs : Int)⟩
/-- Without zeros at its low end. -/
def wideD (neg : Bool) (v e : Int) : Dy := if v = 0 then Dy.zero else ⟨neg, oddI v, e + tz v⟩
theorem sgn_zero (n : Bool) : sgn n 0 = 0 := by cases n <;> rfl
theorem sval_zero (L : Int) : sval Dy.zero L = 0 := by
  show sgn false (lev 0 0 L) = 0
  rw [lev_zero]; rfl
theorem sval_z {d : Dy} (h : d.m = 0) (L : Int) : sval d L = 0 := by
  unfold sval; rw [h, lev_zero, sgn_zero]
theorem canD_val (S L : Int) : sval (canD S L) L = S := by
  unfold canD
  by_cases h : S = 0
  · rw [if_pos h, sval_zero, h]
  · rw [if_neg h]
    unfold sval lev
    have hp : (0 : Int) < (S.natAbs : Int) := by omega
    have e1 : (L + (tz (S.natAbs : Int) : Int) - L).toNat = tz (S.natAbs : Int) := by omega
    show sgn (decide (S < 0)) (oddI (S.natAbs : Int) * pw (L + (tz (S.natAbs : Int) : Int) - L).toNat) = S
    rw [e1, Int.mul_comm, ← (odd_split hp).1]
    unfold sgn
    by_cases hs : S < 0
    · rw [decide_eq_true hs]; simp only [if_true]; omega
    · rw [decide_eq_false hs]; simp only [Bool.false_eq_true, if_false]; omega
theorem canD_scale (S L : Int) (k : Nat) : canD (S * pw k) L = canD S (L + k) := by
  unfold canD
  by_cases h : S = 0
  · subst h; simp
  · have hp : (0 : Int) < (S.natAbs : Int) := by omega
    have hk := pw_pos k
    have hne : S * pw k ≠ 0 := Int.mul_ne_zero h (by omega)
    rw [if_neg hne, if_neg h]
    have ea : ((S * pw k).natAbs : Int) = pw k * (S.natAbs : Int) := by
      rw [Int.natAbs_mul, Int.natCast_mul, Int.mul_comm]
      have : ((pw k).natAbs : Int) = pw k := by omega
      rw [this]
    have hs := odd_split hp
    have hh := odd_of_split (v := pw k * (S.natAbs : Int)) (u := oddI (S.natAbs : Int)) (a := k + tz (S.natAbs : Int)) (by rw [pw_add, Int.mul_assoc, ← hs.1]) hs.2.1 (by omega)
    rw [ea, hh.1, hh.2]
    have hd : decide (S * pw k < 0) = decide (S < 0) := by
      by_cases hn : S < 0
      · rw [decide_eq_true hn, decide_eq_true (Int.mul_neg_of_neg_of_pos hn hk)]
      · have := Int.mul_nonneg (show 0 ≤ S by omega) (Int.le_of_lt hk)
        rw [decide_eq_false hn, decide_eq_false (by omega)]
    rw [hd]
    congr 1
    omega
theorem canD_scale' (S : Int) {L g : Int} (h : L ≤ g) : canD (S * pw (g - L).toNat) L = canD S g := by
  rw [canD_scale]
  congr 1
  omega
theorem wide_can (neg : Bool) {v : Int} (hv : 0 ≤ v) (g : Int) : wideD neg v g = canD (sgn neg v) g := by
  unfold wideD canD
  by_cases h : v = 0
  · subst h
    rw [if_pos rfl, if_pos (sgn_zero neg)]
  · rw [if_neg h]
    cases neg
    · show _ = if v = 0 then _ else _
      rw [if_neg h]
      have e1 : ((sgn false v).natAbs : Int) = v := by show ((v).natAbs : Int) = v; omega
      have e2 : decide (sgn false v < 0) = false := decide_eq_false (by show ¬ v < 0; omega)
      rw [e1, e2]
    · show _ = if -v = 0 then _ else _
      rw [if_neg (by omega)]
      have e1 : ((sgn true v).natAbs : Int) = v := by show ((-v).natAbs : Int) = v; omega
      have e2 : decide (sgn true v < 0) = true := decide_eq_true (by show -v < 0; omega)
      rw [e1, e2]
theorem canD_m (S L : Int) : 0 ≤ (canD S L).m := by
  unfold canD
  split
  · exact Int.le_refl _
  · exact oddI_nonneg (by omega)
theorem canD_z {S L : Int} (h : (canD S L).m = 0) : canD S L = Dy.zero ∧ S = 0 := by
  unfold canD at h ⊢
  by_cases h0 : S = 0
  · rw [if_pos h0]; exact ⟨rfl, h0⟩
  · rw [if_neg h0] at h
    have := oddI_pos (v := (S.natAbs : Int)) (by omega)
    simp only at h
    omega
theorem canD_e {S L : Int} (h : S ≠ 0) : L ≤ (canD S L).e ∧ (canD S L).e = L + tz (S.natAbs : Int) ∧ (canD S L).m = oddI (S.natAbs : Int) := by
  unfold canD
  rw [if_neg h]
  exact ⟨by simp only; omega, rfl, rfl⟩
/-- The exponent on which two are laid. -/
def sideE (x y e f : Int) : Int := if x = 0 then f else if y = 0 then e else min e f
def addC (a b : Dy) : Dy := canD (sval a (sideE a.m b.m a.e b.e) + sval b (sideE a.m b.m a.e b.e)) (sideE a.m b.m a.e b.e)
theorem sval_down (d : Dy) {L g : Int} (h : L ≤ g) (hd : d.m = 0 ∨ g ≤ d.e) : sval d L = sval d g * pw (g - L).toNat := by
  rcases hd with hz | hd
  · rw [sval_z hz, sval_z hz, Int.zero_mul]
  · unfold sval
    rw [lev_down h hd, sgn_mul]
theorem sideE_le (a b : Dy) : (a.m = 0 ∨ sideE a.m b.m a.e b.e ≤ a.e) ∧ (b.m = 0 ∨ sideE a.m b.m a.e b.e ≤ b.e) := by
  unfold sideE
  by_cases h : a.m = 0
  · rw [if_pos h]; exact ⟨.inl h, .inr (Int.le_refl _)⟩
  · rw [if_neg h]
    by_cases h2 : b.m = 0
    · rw [if_pos h2]; exact ⟨.inr (Int.le_refl _), .inl h2⟩
    · rw [if_neg h2]; exact ⟨.inr (by omega), .inr (by omega)⟩
/-- A sum, on any exponent that is low enough. -/
theorem addC_can (a b : Dy) (L : Int) (ha : a.m = 0 ∨ L ≤ a.e) (hb : b.m = 0 ∨ L ≤ b.e) : addC a b = canD (sval a L + sval b L) L := by
  unfold addC
  obtain ⟨s1, s2⟩ := sideE_le a b
  by_cases h1 : a.m = 0
  · by_cases h2 : b.m = 0
    · rw [sval_z h1, sval_z h2, sval_z h1, sval_z h2]; rfl
    · have hg : sideE a.m b.m a.e b.e = b.e := by unfold sideE; rw [if_pos h1]
      rw [hg] at s1 s2 ⊢
      have hL := hb.resolve_left h2
      rw [sval_down a hL s1, sval_down b hL s2, ← Int.add_mul, canD_scale' _ hL]
  · have hL : L ≤ sideE a.m b.m a.e b.e := by
      have := ha.resolve_left h1
      unfold sideE
      rw [if_neg h1]
      by_cases h2 : b.m = 0
      · rw [if_pos h2]; exact this
      · rw [if_neg h2]
        have := hb.resolve_left h2
        omega
    rw [sval_down a hL s1, sval_down b hL s2, ← Int.add_mul, canD_scale' _ hL]
theorem addC_fold (S L : Int) (d : Dy) (hd : d.m = 0 ∨ L ≤ d.e) : addC (canD S L) d = canD (S + sval d L) L := by
  rw [addC_can _ d L ?_ hd, canD_val]
  by_cases h : S = 0
  · subst h; exact .inl rfl
  · exact .inr (canD_e h).1
/-- What the document's add comes to. -/
theorem add_plus {p q : Bool} {x y : Int} (g : Int) (hx : 0 ≤ x) (hy : 0 ≤ y) (hp : x = 0 → p = false) (h : x = 0 ∨ y = 0 ∨ p = q) : wideD (p || (decide (x = 0) && q)) (x + y) g = canD (sgn p x + sgn q y) g := by
  rw [wide_can _ (by omega)]
  congr 1
  by_cases h0 : x = 0
  · subst h0
    rw [hp rfl]
    simp [sgn_zero]
  · rw [decide_eq_false h0, Bool.false_and, Bool.or_false]
    rcases h with h | h | h
    · exact absurd h h0
    · subst h; simp [sgn_zero]
    · subst h; cases p <;> simp [sgn] <;> omega
theorem add_minus {p q : Bool} {x y : Int} (g : Int) (h : p ≠ q) : (y ≤ x → wideD p (x - y) g = canD (sgn p x + sgn q y) g) ∧ (x ≤ y → wideD q (y - x) g = canD (sgn p x + sgn q y) g) := by
  constructor
  · intro hh
    rw [wide_can _ (by omega)]
    congr 1
    cases p <;> cases q <;> simp [sgn] at h ⊢ <;> omega
  · intro hh
    rw [wide_can _ (by omega)]
    congr 1
    cases p <;> cases q <;> simp [sgn] at h ⊢ <;> omega
theorem mkD_can (S : Int) {L : Int} (h0 : -262144 ≤ L) (h1 : L ≤ 262144) :
    mkD (decide (S < 0)) (S.natAbs : Int) L = if plainB (canD S L).neg (wd (canD S L).m) (canD S L).e then some (canD S L) else none := by
  unfold mkD canD
  by_cases h : S = 0
  · subst h
    rw [if_pos (by rfl), if_pos rfl]
    show some Dy.zero = if plainB false (wd 0) 0 then some Dy.zero else none
    rw [wd_zero (Int.le_refl _)]; rfl
  · have hp : (0 : Int) < (S.natAbs : Int) := by omega
    have ho := odd_split hp
    rw [if_neg (by omega), if_neg (by omega), if_neg h, plainB_words ho.2.2]
    by_cases hh : (wd (oddI (S.natAbs : Int))).length ≤ 256 ∧ L + (tz (S.natAbs : Int) : Int) ≤ 262144
    · rw [if_pos hh, if_pos (by simp only [Bool.and_eq_true, decide_eq_true_eq]; exact ⟨⟨⟨ho.2.1, hh.1⟩, by omega⟩, hh.2⟩)]
    · rw [if_neg hh, if_neg (by simp only [Bool.and_eq_true, decide_eq_true_eq]; omega)]
end Go.Proofs.YtbfnjjnnlbchgaaDoor
