/- The document's numbers of words; the words of numbers, on both sides. -/
import Derived.Test.YtbfnjjnnlbchgaaDoorBtB
import Derived.Test.YtbfnjjnnlbchgaaDoorDyC
import Derived.Test.YtbfnjjnnlbchgaaDoorNatG
namespace Go.Proofs.YtbfnjjnnlbchgaaDoor
open Go.RowKit Num
set_option maxRecDepth 100000

def sg (neg : Bool) : Int := if neg then 9223372036854775808 else 0
/-- The word of a number, by the document. -/
def wordI (neg : Bool) (v e : Int) : Option Int :=
  if 53 < bl v ∨ 1024 < bl v + e ∨ e < -1074 then none
  else if bl v + e ≤ -1022 then some (sg neg + v * 2 ^ (e + 1074).toNat)
  else some (sg neg + (bl v + e + 1022) * 4503599627370496 + v * 2 ^ (53 - bl v).toNat - 4503599627370496)
def wordD (neg : Bool) (xs : List Int) (e : Int) : Option Int := if plainB neg xs e then (if xs.length = 0 then some 0 else wordI neg (val xs) e) else none
/-- A word, and whether there is one; boxes may have come. -/
def RetWB (o : Option Int) (w : World) (r : Ending) (w' : World) : Prop := r = .returned (.tuple #[.int .u64 (o.getD 0), .bool o.isSome]) ∧ Below w.heap.size w w'
theorem plainB_top {neg : Bool} {xs : List Int} {e : Int} (h : plainB neg xs e = true) (h0 : xs.length ≠ 0) : xs.getD (xs.length - 1) 0 ≠ 0 ∧ xs.length ≤ 256 ∧ -262144 ≤ e ∧ e ≤ 262144 ∧ xs.getD 0 0 % 2 = 1 := by
  unfold plainB at h
  rw [if_neg h0] at h
  simp only [Bool.and_eq_true, decide_eq_true_eq, ne_eq] at h
  exact ⟨h.1.1.1.1, h.1.1.2, h.1.2, h.2, h.1.1.1.2⟩
theorem top_of {xs : List Int} (h0 : xs.length ≠ 0) (h : xs.getD (xs.length - 1) 0 ≠ 0) : Top xs := by
  unfold Top
  rw [List.getLast?_eq_getElem?, List.getElem?_eq_getElem (by omega)]
  rw [List.getD_eq_getElem?_getD, List.getElem?_eq_getElem (by omega)] at h
  simpa using h
/-- The first word of a shift that stays below 2^64. -/
theorem shl_first {v : Int} {k : Nat} (hv : 0 < v) (hlt : v * 2 ^ k < 18446744073709551616) : wd (v * 2 ^ k) = [v * 2 ^ k] := by
  have hp : (0 : Int) < 2 ^ k := Int.pow_pos (by decide)
  exact wd_small (Int.mul_pos hv hp) hlt
theorem mul_bl {v : Int} {k : Nat} (hv : 0 < v) : pw (bl v - 1 + k).toNat ≤ v * 2 ^ k ∧ v * 2 ^ k < pw (bl v + k).toNat := by
  obtain ⟨a, e, a0, a1⟩ := bl_spec hv
  have hp := pw_pos k
  rw [e, show ((a : Int) + 1 - 1 + k).toNat = a + k from by omega, show ((a : Int) + 1 + k).toNat = (a + 1) + k from by omega, pw_add, pw_add]
  exact ⟨Int.mul_le_mul_of_nonneg_right a0 (by omega), Int.mul_lt_mul_of_pos_right a1 hp⟩
end Go.Proofs.YtbfnjjnnlbchgaaDoor
