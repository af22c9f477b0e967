/- nat.Sqrt: Newton's way, from above. -/
import Derived.Test.YteffemhapnbaeaaDoorMG
import Derived.Test.YteffemhapnbaeaaDoorMH
import Derived.Test.YteffemhapnbaeaaDoorMI
import Derived.Test.YteffemhapnbaeaaDoorMD
namespace Go.Proofs.YteffemhapnbaeaaDoor
open Go.RowKit Num
set_option maxRecDepth 100000

/-- What a slice of words reads as, or 0. -/
noncomputable def readW (w : World) : Value → Nat
  | .slice A n c => @dite Nat (∃ xs, Arr w A n c xs) (Classical.propDecidable _) (fun h => (val (Classical.choose h)).toNat) (fun _ => 0)
  | _ => 0
theorem Arr.uniq {w : World} {A : Option Addr} {n c : Nat} {xs ys : List Int} (h : Arr w A n c xs) (h' : Arr w A n c ys) : xs = ys := by
  apply List.ext_getElem (by rw [h.len, h'.len])
  intro i hi hj
  have hn : 0 < n := by rw [← h.len]; omega
  obtain ⟨b, o, e, _, hc⟩ := h.mem hn
  obtain ⟨b', o', e', _, hc'⟩ := h'.mem hn
  cases e.symm.trans e'
  have h1 := hc i (by rw [← h.len]; exact hi)
  have h2 := hc' i (by rw [← h.len]; exact hi)
  rw [h1] at h2
  simp only [Option.some.injEq, Value.int.injEq, true_and] at h2
  rw [List.getD_eq_getElem?_getD, List.getD_eq_getElem?_getD, List.getElem?_eq_getElem hi, List.getElem?_eq_getElem hj] at h2
  simpa using h2
theorem readW_arr {w : World} {A : Option Addr} {n c : Nat} {xs : List Int} (h : Arr w A n c xs) : readW w (.slice A n c) = (val xs).toNat := by
  have hh : ∃ xs, Arr w A n c xs := ⟨xs, h⟩
  unfold readW
  simp only
  rw [dif_pos hh, (Classical.choose_spec hh).uniq h]
theorem newton_above {v s t : Int} (hs : 0 < s) (hv : 0 ≤ v) (ht : t = (s + v / s) / 2) : v < (t + 1) * (t + 1) := by
  have h1 := Int.mul_ediv_add_emod v s
  have h2 := Int.emod_lt_of_pos v hs
  have h3 : 0 ≤ v / s := Int.ediv_nonneg hv (by omega)
  generalize v / s = q at *
  generalize v % s = r at *
  have h4 : s + q + 1 ≤ 2 * (t + 1) := by omega
  have h5 : (s + q + 1) * (s + q + 1) ≤ 2 * (t + 1) * (2 * (t + 1)) := Int.mul_le_mul h4 h4 (by omega) (by omega)
  have h6 : 0 ≤ (s - (q + 1)) * (s - (q + 1)) := by
    rcases Int.le_total 0 (s - (q + 1)) with h | h
    · exact Int.mul_nonneg h h
    · have := Int.mul_nonneg (show 0 ≤ -(s - (q + 1)) by omega) (show 0 ≤ -(s - (q + 1)) by omega)
      rwa [Int.neg_mul_neg] at this
  have e1 : (s + q + 1) * (s + q + 1) = (s - (q + 1)) * (s - (q + 1)) + 4 * (s * q + s) := by grind
  have e2 : 2 * (t + 1) * (2 * (t + 1)) = 4 * ((t + 1) * (t + 1)) := by grind
  omega
theorem newton_end {v s t : Int} (hs : 0 < s) (ht : t = (s + v / s) / 2) (h : s ≤ t) : s * s ≤ v := by
  have h1 := Int.mul_ediv_add_emod v s
  have h2 := Int.emod_nonneg v (show s ≠ 0 by omega)
  generalize v / s = q at *
  have h3 : s ≤ q := by omega
  have h4 : s * s ≤ s * q := Int.mul_le_mul_of_nonneg_left h3 (by omega)
  omega
theorem newton_pos {v t : Int} (hv : 0 < v) (ht : 0 ≤ t) (h : v < (t + 1) * (t + 1)) : 0 < t := by
  by_cases h0 : 0 < t
  · exact h0
  · obtain rfl : t = 0 := by omega
    omega
theorem root_start {v : Int} {b : Nat} (hv : 0 < v) (hb : bl v = b) : v < (pw ((b + 1) / 2) + 1) * (pw ((b + 1) / 2) + 1) := by
  obtain ⟨a, ea, a0, a1⟩ := bl_spec hv
  have h1 : pw (a + 1) ≤ pw ((b + 1) / 2 + (b + 1) / 2) := pw_le (by omega)
  rw [pw_add ((b + 1) / 2) ((b + 1) / 2)] at h1
  have hp := pw_pos ((b + 1) / 2)
  have e : (pw ((b + 1) / 2) + 1) * (pw ((b + 1) / 2) + 1) = pw ((b + 1) / 2) * pw ((b + 1) / 2) + 2 * pw ((b + 1) / 2) + 1 := by grind
  omega
/-- The greatest power's words. -/
theorem wd_pw (k r : Nat) (hr : r < 64) : wd (pw (64 * k + r)) = List.replicate k 0 ++ [pw r] := by
  have hp := pw_pos r
  have hlt : pw r < pw 64 := pw_lt_iff.2 hr
  rw [← B_pw, B_eq] at hlt
  have hw : Wf (List.replicate k 0 ++ [pw r]) := wf_append.2 ⟨wf_replicate k, wf_one (by omega) hlt⟩
  have ht : Top (List.replicate k 0 ++ [pw r]) := by
    unfold Top
    rw [List.getLast?_append]
    simp; omega
  have hv : val (List.replicate k 0 ++ [pw r]) = pw (64 * k + r) := by
    rw [val_append, val_replicate, List.length_replicate, val_one, B_pow_pw, ← pw_add, Int.zero_add]
  rw [← hv, wd_val hw ht]
theorem set_last (k : Nat) (v : Int) : (List.replicate (k + 1) (0 : Int)).set k v = List.replicate k 0 ++ [v] := by
  rw [List.replicate_succ', List.set_append_right _ _ (by simp)]
  simp
def RetQ (v : Int) (w : World) (e : Ending) (w' : World) : Prop :=
  ∃ A1 n1 c1 A2 n2 c2 s, e = .returned (.tuple #[.slice A1 n1 c1, .slice A2 n2 c2]) ∧ Arr w' A1 n1 c1 (wd s) ∧ Arr w' A2 n2 c2 (wd (v - s * s)) ∧ 0 ≤ s ∧ s * s ≤ v ∧ v < (s + 1) * (s + 1) ∧ Below w.heap.size w w'
end Go.Proofs.YteffemhapnbaeaaDoor
/- The document's powers of 2 and its root. -/
namespace Go.Proofs.YteffemhapnbaeaaDoor
open Go.RowKit Num
set_option linter.unusedSimpArgs false
set_option linter.unusedVariables false
set_option maxRecDepth 100000

end Go.Proofs.YteffemhapnbaeaaDoor
