/- nat.plain: a product word by word. -/
import Derived.Test.YteffemhapnbaeaaDoorMC
import Derived.Test.YteffemhapnbaeaaDoorMA
import Derived.Deep.RegionWith
namespace Go.Proofs.YteffemhapnbaeaaDoor
open Go.RowKit Num
set_option maxRecDepth 100000

theorem add64_ex (x y : Int) (hx0 : 0 ≤ x) (hx : x < 18446744073709551616) (hy0 : 0 ≤ y) (hy : y < 18446744073709551616) (w : World) : ∃ s k : Int,
    (callFunc 82 #[.int .u64 x, .int .u64 y, .int .u64 0]).run Tryd.prog w = .ok (.value (.tuple #[.int .u64 s, .int .u64 k])) w ∧ x + y = s + k * 18446744073709551616 ∧ 0 ≤ s ∧ s < 18446744073709551616 ∧ 0 ≤ k ∧ k ≤ 1 := by
  have h := call_add64 x y 0 hx0 hy0 (Int.le_refl _) (by omega) w
  exact ⟨_, _, h, by omega, by omega, by omega, by omega, by omega⟩
theorem mul_ex (x y : Int) (hx0 : 0 ≤ x) (hx : x < 18446744073709551616) (hy0 : 0 ≤ y) (hy : y < 18446744073709551616) : ∃ hi lo : Int,
    x * y / 18446744073709551616 = hi ∧ x * y % 18446744073709551616 = lo ∧ x * y = hi * 18446744073709551616 + lo ∧ 0 ≤ lo ∧ lo < 18446744073709551616 ∧ 0 ≤ hi ∧ x * y ≤ 340282366920938463426481119284349108225 := by
  have h1 : x * y ≤ 18446744073709551615 * y := Int.mul_le_mul_of_nonneg_right (by omega) hy0
  have h2 : 0 ≤ x * y := Int.mul_nonneg hx0 hy0
  exact ⟨_, _, rfl, rfl, by omega, by omega, by omega, by omega, by omega⟩
/-- What stands while a word's product is added: i words are done, k words of this one. -/
structure PlainInv (Z xs ys : List Int) (i k : Nat) (x c : Int) : Prop where
  v : val Z + c * B ^ (i + k) = val xs * val (ys.take i) + x * B ^ i * val (xs.take k)
  z : ∀ j, i + xs.length ≤ j → Z.getD j 0 = 0
theorem plain_step {Z xs ys : List Int} {i k : Nat} {x y c s s' c' : Int} (h : PlainInv Z xs ys i k x c) (hk : k < xs.length) (hl : i + k < Z.length) (hs : Z.getD (i + k) 0 = s) (hy : xs.getD k 0 = y) (e : x * y + c + s = s' + c' * 18446744073709551616) :
    PlainInv (Z.set (i + k) s') xs ys i (k + 1) x c' := by
  refine ⟨?_, fun j hj => by rw [getD_set_other _ _ _ _ (by omega)]; exact h.z j hj⟩
  have hv := h.v
  have e1 : val (xs.take (k + 1)) = val (xs.take k) + B ^ k * y := by
    rw [take_last (xs := xs) (k := k + 1) (by omega) (by omega), Nat.add_sub_cancel, val_append, List.length_take, Nat.min_eq_left (by omega), ← List.getD_eq_getElem?_getD, hy]
    simp [val]
  rw [val_set _ _ _ hl, hs, e1, ← Nat.add_assoc, Int.pow_succ, Int.pow_add]
  rw [Int.pow_add] at hv
  generalize B ^ i = p at *
  generalize B ^ k = q at *
  have e2 : c' * (p * q * B) = (x * y + c + s - s') * (p * q) := by
    have : x * y + c + s - s' = c' * B := by rw [B_eq]; omega
    rw [this]; grind
  rw [e2]; grind
theorem plain_last {Z xs ys : List Int} {i : Nat} {x c : Int} (h : PlainInv Z xs ys i xs.length x c) (hi : i < ys.length) (hl : i + xs.length < Z.length) (hx : ys.getD i 0 = x) :
    PlainInv (Z.set (i + xs.length) c) xs ys (i + 1) 0 0 0 := by
  have hv := h.v
  refine ⟨?_, fun j hj => by rw [getD_set_other _ _ _ _ (by omega)]; exact h.z j (by omega)⟩
  have e1 : val (ys.take (i + 1)) = val (ys.take i) + B ^ i * x := by
    rw [take_last (xs := ys) (k := i + 1) (by omega) (by omega), Nat.add_sub_cancel, val_append, List.length_take, Nat.min_eq_left (by omega), ← List.getD_eq_getElem?_getD, hx]
    simp [val]
  rw [List.take_length] at hv
  rw [val_set _ _ _ hl, h.z _ (Nat.le_refl _), e1, List.take_zero, val_nil]
  generalize B ^ i = p at *
  generalize B ^ (i + xs.length) = q at *
  grind
theorem plain_begin {Z xs ys : List Int} {i : Nat} (x : Int) (h : PlainInv Z xs ys i 0 0 0) : PlainInv Z xs ys i 0 x 0 := by
  have hv := h.v
  refine ⟨?_, h.z⟩
  rw [List.take_zero, val_nil, Int.zero_mul, Int.mul_zero] at *
  exact hv
theorem plain_start (xs ys : List Int) (n : Nat) : PlainInv (List.replicate n 0) xs ys 0 0 0 0 := by
  refine ⟨by rw [val_replicate]; simp [val], fun j _ => ?_⟩
  rw [List.getD_eq_getElem?_getD, List.getElem?_replicate]; split <;> rfl
theorem plain_end {Z xs ys : List Int} {i : Nat} (h : PlainInv Z xs ys i 0 0 0) (hi : ys.length ≤ i) : val Z = val xs * val ys := by
  have hv := h.v
  rw [List.take_of_length_le hi, Int.zero_mul, Int.zero_mul, Int.zero_mul] at hv
  omega
end Go.Proofs.YteffemhapnbaeaaDoor
/- nat.halves and nat.Mul. -/
namespace Go.Proofs.YteffemhapnbaeaaDoor
open Go.RowKit Num
set_option maxRecDepth 100000

end Go.Proofs.YteffemhapnbaeaaDoor
/- nat.Mul. Printed by wip/tools/mulk.py. -/
namespace Go.Proofs.YteffemhapnbaeaaDoor
open Go.RowKit Num
set_option maxRecDepth 100000

end Go.Proofs.YteffemhapnbaeaaDoor
