/- The document's numbers of words; the words of numbers, on both sides. -/
import Derived.Test.YteffemhapnbaeaaDoorML
import Derived.Test.YteffemhapnbaeaaDoorMM
import Derived.Test.YteffemhapnbaeaaDoorMD
import Derived.Test.YteffemhapnbaeaaDoorMK
namespace Go.Proofs.YteffemhapnbaeaaDoor
open Go.RowKit Num
set_option maxRecDepth 100000

def sg (neg : Bool) : Int := if neg then 9223372036854775808 else 0
/-- The word of a number, by the document. -/
def wordI (neg : Bool) (v e : Int) : Option Int :=
  if 53 < bl v ∨ 1024 < bl v + e ∨ e < -1074 then none
  else if bl v + e ≤ -1022 then some (sg neg + v * 2 ^ (e + 1074).toNat)
  else some (sg neg + (bl v + e + 1022) * 4503599627370496 + v * 2 ^ (53 - bl v).toNat - 4503599627370496)
def wordD (neg : Bool) (xs : List Int) (e : Int) : Option Int := if plainB neg xs e then (if xs.length = 0 then some 0 else wordI neg (val xs) e) else none
/-- A word, and whether there is one; boxes may have come. -/
def RetWB (o : Option Int) (w : World) (r : Ending) (w' : World) : Prop := r = .returned (.tuple #[.int .u64 (o.getD 0), .bool o.isSome]) ∧ Below w.heap.size w w'
theorem plainB_top {neg : Bool} {xs : List Int} {e : Int} (h : plainB neg xs e = true) (h0 : xs.length ≠ 0) : xs.getD (xs.length - 1) 0 ≠ 0 ∧ xs.length ≤ 256 ∧ -262144 ≤ e ∧ e ≤ 262144 ∧ xs.getD 0 0 % 2 = 1 := by
  unfold plainB at h
  rw [if_neg h0] at h
  simp only [Bool.and_eq_true, decide_eq_true_eq, ne_eq] at h
  exact ⟨h.1.1.1.1, h.1.1.2, h.1.2, h.2, h.1.1.1.2⟩
theorem top_of {xs : List Int} (h0 : xs.length ≠ 0) (h : xs.getD (xs.length - 1) 0 ≠ 0) : Top xs := by
  unfold Top
  rw [List.getLast?_eq_getElem?, List.getElem?_eq_getElem (by omega)]
  rw [List.getD_eq_getElem?_getD, List.getElem?_eq_getElem (by omega)] at h
  simpa using h
/-- The first word of a shift that stays below 2^64. -/
theorem shl_first {v : Int} {k : Nat} (hv : 0 < v) (hlt : v * 2 ^ k < 18446744073709551616) : wd (v * 2 ^ k) = [v * 2 ^ k] := by
  have hp : (0 : Int) < 2 ^ k := Int.pow_pos (by decide)
  exact wd_small (Int.mul_pos hv hp) hlt
theorem mul_bl {v : Int} {k : Nat} (hv : 0 < v) : pw (bl v - 1 + k).toNat ≤ v * 2 ^ k ∧ v * 2 ^ k < pw (bl v + k).toNat := by
  obtain ⟨a, e, a0, a1⟩ := bl_spec hv
  have hp := pw_pos k
  rw [e, show ((a : Int) + 1 - 1 + k).toNat = a + k from by omega, show ((a : Int) + 1 + k).toNat = (a + 1) + k from by omega, pw_add, pw_add]
  exact ⟨Int.mul_le_mul_of_nonneg_right a0 (by omega), Int.mul_lt_mul_of_pos_right a1 hp⟩
end Go.Proofs.YteffemhapnbaeaaDoor
/- The words of numbers, on both sides. -/
namespace Go.Proofs.YteffemhapnbaeaaDoor
open Go.RowKit Num
set_option linter.unusedSimpArgs false
set_option linter.unusedVariables false
set_option maxRecDepth 100000

end Go.Proofs.YteffemhapnbaeaaDoor
/- What the laws of words want: the plain part, and the walks of the laws. -/
namespace Go.Proofs.YteffemhapnbaeaaDoor
open Go.RowKit Num
set_option maxRecDepth 100000

/-- A word without its sign. -/
def size63 (b : Int) : Int := b % 9223372036854775808
theorem kind_size (b : Int) (_h0 : 0 ≤ b) (_h1 : b < 18446744073709551616) :
    (kindI b = 0 ↔ size63 b = 0) ∧ (kindI b = 3 ↔ size63 b = 9218868437227405312) ∧ (kindI b = 4 ↔ 9218868437227405312 < size63 b) ∧ (kindI b = 1 ↔ 0 < size63 b ∧ size63 b < 4503599627370496) := by
  unfold kindI expo frac size63
  refine ⟨?_, ?_, ?_, ?_⟩ <;> (repeat' split) <;> omega
theorem next_back {b n : Int} {up : Bool} (h0 : 0 ≤ b) (h1 : b < 18446744073709551616) (h : nextW b up = some n) :
    (0 ≤ n ∧ n < 18446744073709551616) ∧ ∃ k, nextW n (!up) = some k ∧ (k = b ∨ kindI b = 0 ∧ kindI k = 0) := by
  obtain ⟨a1, a2, a3, _⟩ := kind_size b h0 h1
  have hn : 0 ≤ n ∧ n < 18446744073709551616 := by
    unfold nextW negB size63 at *
    cases up <;> simp only [decide_eq_true_eq, ne_eq, decide_eq_false_iff_not] at h <;> (repeat' split at h) <;> simp at h <;> omega
  refine ⟨hn, ?_⟩
  obtain ⟨b1, b2, b3, _⟩ := kind_size n hn.1 hn.2
  have z1 : kindI 0 = 0 := by decide
  have z2 : kindI 9223372036854775808 = 0 := by decide
  by_cases hk : kindI b = 0
  · have e : n = if up then 1 else 9223372036854775809 := by
      unfold nextW at h
      rw [if_neg (by omega), if_pos hk] at h
      exact (Option.some.inj h).symm
    have hs := a1.1 hk
    cases up
    · subst e
      refine ⟨9223372036854775808, by decide, .inr ⟨hk, z2⟩⟩
    · subst e
      refine ⟨0, by decide, .inr ⟨hk, z1⟩⟩
  · have h4 : ¬ (kindI b = 4 ∨ (kindI b = 3 ∧ negB b ≠ up)) := by
      intro hh; unfold nextW at h; rw [if_pos hh] at h; cases h
    unfold nextW at h
    rw [if_neg h4, if_neg hk] at h
    unfold nextW
    unfold negB size63 at *
    refine ⟨b, ?_, .inl rfl⟩
    cases up <;> simp only [Bool.not_true, Bool.not_false, decide_eq_true_eq, ne_eq, decide_eq_false_iff_not] at * <;> (repeat' split at h) <;> simp at h <;> (repeat' split) <;> first | omega | (exfalso; omega) | (simp only [Option.some.injEq]; omega) | contradiction | exact absurd trivial (by assumption)
theorem mkD_split (neg : Bool) {v e u : Int} {a : Nat} (h : v = pw a * u) (hu : u % 2 = 1) (h0 : 0 < u) (h1 : u < 18446744073709551616) (e0 : e ≤ 262144) (e1 : -262144 ≤ e + a) (e2 : e + a ≤ 262144) : mkD neg v e = some ⟨neg, u, e + a⟩ := by
  obtain ⟨t1, t2⟩ := odd_of_split h hu (by omega)
  have hp := pw_pos a
  have hv : v ≠ 0 := by
    have := Int.mul_pos hp h0
    omega
  unfold mkD
  rw [if_neg hv, t1, t2, if_neg (by omega), wd_small h0 h1, if_pos ⟨by simp, e2⟩]
end Go.Proofs.YteffemhapnbaeaaDoor
/- The laws BitsNumbers and BitsWords: the plain part, and the walks. -/
namespace Go.Proofs.YteffemhapnbaeaaDoor
open Go.RowKit Num
set_option maxRecDepth 100000

theorem bl_split {v u : Int} {a : Nat} (h : v = pw a * u) (h0 : 0 < u) : bl v = a + bl u := by
  obtain ⟨t, e, t0, t1⟩ := bl_spec h0
  have hp := pw_pos a
  have e0 : bl v = ((a + t : Nat) : Int) + 1 := by
    refine bl_unique ?_ ?_
    · rw [pw_add, h]; exact Int.mul_le_mul_of_nonneg_left t0 (by omega)
    · rw [Nat.add_assoc, pw_add, h]; exact Int.mul_lt_mul_of_pos_left t1 hp
  rw [e0, e]; omega
theorem odd_53 {v : Int} (h0 : 0 < v) (h1 : v < 9007199254740992) : ∃ (a : Nat) (u : Int), v = pw a * u ∧ u % 2 = 1 ∧ 0 < u ∧ u < 9007199254740992 ∧ bl v = a + bl u ∧ (a : Int) ≤ 53 ∧ 1 ≤ bl u ∧ bl v ≤ 53 := by
  obtain ⟨h, hu, hp⟩ := odd_split h0
  have hb := bl_split h hp
  have h53 := bl_lt (v := v) (a := 53) (by omega) (by rw [show pw 53 = 9007199254740992 from by decide]; exact h1)
  have hpu := bl_pos hp
  refine ⟨tz v, oddI v, h, hu, hp, ?_, hb, by omega, hpu, h53⟩
  have : oddI v ≤ v := by
    have hp2 := pw_pos (tz v)
    have := Int.mul_le_mul_of_nonneg_right (show 1 ≤ pw (tz v) by omega) (show 0 ≤ oddI v by omega)
    rw [← h] at this; omega
  omega
theorem word_odd (neg : Bool) {u e : Int} (h0 : 0 < u) (h1 : u < 9007199254740992) (hu : u % 2 = 1) (e0 : -262144 ≤ e) (e1 : e ≤ 262144) : wordD neg (wd u) e = wordI neg u e := by
  unfold wordD
  have hl : wd u = [u] := wd_small h0 (by omega)
  rw [plainB_words h0, hl, val_one]
  simp [hu, e0, e1]
theorem bl_top {v : Int} (h0 : 4503599627370496 ≤ v) (h1 : v < 9007199254740992) : bl v = 53 := by
  have := bl_unique (v := v) (a := 52) (by rw [show pw 52 = 4503599627370496 from by decide]; exact h0) (by rw [show pw 53 = 9007199254740992 from by decide]; exact h1)
  rw [this]; rfl
theorem mkD_odd (neg : Bool) {v e u : Int} {a : Nat} (h : v = pw a * u) (hu : u % 2 = 1) (h0 : 0 < u) (h1 : u < 18446744073709551616) (e0 : e ≤ 1000) (e1 : -2000 ≤ e) (e2 : (a : Int) ≤ 53) : mkD neg v e = some ⟨neg, u, e + a⟩ :=
  mkD_split neg h hu h0 h1 (by omega) (by omega) (by omega)
theorem sameB_self (p : Bool) (xs : List Int) (e : Int) : sameB p p xs xs e e = true := by simp [sameB]
end Go.Proofs.YteffemhapnbaeaaDoor
/- Layer 2's laws: the same twice. -/
namespace Go.Proofs.YteffemhapnbaeaaDoor
open Go.RowKit Num
set_option maxRecDepth 100000

end Go.Proofs.YteffemhapnbaeaaDoor
