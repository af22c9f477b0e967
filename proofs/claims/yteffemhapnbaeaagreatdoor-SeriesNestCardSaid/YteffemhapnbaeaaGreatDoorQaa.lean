/- Walks and laws that the claim's row needs. No conditions. -/
import Derived.Test.YteffemhapnbaeaaGreatDoorProg
import Derived.WalkKit
import Derived.WalkSpells
import Derived.KernelRfl
import Derived.Lib.Hide
import Derived.Deep.Draws
import Derived.Deep.QuietTactic
import Derived.BigQuiet
import Derived.Shelf.Small.Bits
import Derived.Shelf.Strconv.Itoa0
import Derived.Shelf.Bits.Mul64
import Derived.Shelf.Spec.TrailingZeros
import Derived.Lib.TrailingZeros
import Derived.Test.YteffemhapnbaeaaGreatDoorCards
import Derived.Test.YteffemhapnbaeaaGreatDoorTie
import Derived.ProofKit
import Derived.OpenShut
import Derived.Deep.DeepHandedRow
import Derived.Lib.LaidTab
set_option maxHeartbeats 16000000
set_option linter.unusedSimpArgs false
set_option linter.unusedVariables false
namespace Go.Proofs.YteffemhapnbaeaaGreatDoor
theorem Be {p : Prop} (h : p) : RowKit.Hid p := h
theorem Bf {α : Type} : (∀ (l : List α) (i : Nat) (a : α), l.toArray.setIfInBounds i a = (l.set i a).toArray) ∧ (∀ (a b : α) (l : List α), (a :: l).set 0 b = b :: l) ∧ ∀ (a b : α) (l : List α) (n : Nat), (a :: l).set (n + 1) b = a :: l.set n b := ⟨fun _ _ _ => List.setIfInBounds_toArray .., fun _ _ _ => rfl, fun _ _ _ _ => rfl⟩
theorem setArr {α : Type _} (l : List α) (i : Nat) (a : α) : l.toArray.setIfInBounds i a = (l.set i a).toArray := List.setIfInBounds_toArray ..
theorem setZero {α : Type _} (a b : α) (l : List α) : (a :: l).set 0 b = b :: l := rfl
theorem setSucc {α : Type _} (a b : α) (l : List α) (n : Nat) : (a :: l).set (n + 1) b = a :: l.set n b := rfl
end Go.Proofs.YteffemhapnbaeaaGreatDoor
namespace Go.Proofs.YteffemhapnbaeaaGreatDoor.Num
def B : Int := 18446744073709551616
theorem B_eq : B = 18446744073709551616 := rfl
theorem B_pos : 0 < B := by decide
def Wf (xs : List Int) : Prop := ∀ x ∈ xs, 0 ≤ x ∧ x < 18446744073709551616
def val : List Int → Int
 | [] => 0
 | x :: xs => x + B * val xs
def wd (n : Int) : List Int := if _h : n ≤ 0 then [] else (n % B) :: wd (n / B)
termination_by n.toNat
decreasing_by
 have h1 : n / B < n := by rw [B_eq]; omega
 omega
theorem wf_nil : Wf [] := by intro x h; cases h
theorem wf_cons {x : Int} {xs : List Int} : Wf (x :: xs) ↔ (0 ≤ x ∧ x < 18446744073709551616) ∧ Wf xs := by
 simp [Wf]
theorem wf_append {xs ys : List Int} : Wf (xs ++ ys) ↔ Wf xs ∧ Wf ys := by
 simp only [Wf, List.mem_append]
 constructor
 ·exact fun h => ⟨fun x hx => h x (.inl hx), fun x hx => h x (.inr hx)⟩
 ·rintro ⟨h1, h2⟩ x (hx | hx)
  ·exact h1 x hx
  ·exact h2 x hx
theorem Wf.take {xs : List Int} (h : Wf xs) (n : Nat) : Wf (xs.take n) := fun x hx => h x (List.mem_of_mem_take hx)
theorem Wf.drop {xs : List Int} (h : Wf xs) (n : Nat) : Wf (xs.drop n) := fun x hx => h x (List.mem_of_mem_drop hx)
theorem Wf.getD {xs : List Int} (h : Wf xs) (i : Nat) : 0 ≤ xs.getD i 0 ∧ xs.getD i 0 < 18446744073709551616 := by
 by_cases hi : i < xs.length
 ·rw [List.getD_eq_getElem?_getD, List.getElem?_eq_getElem hi]
  exact h _ (List.getElem_mem hi)
 ·rw [List.getD_eq_getElem?_getD, List.getElem?_eq_none (by omega)]
  decide
theorem Wf.set {xs : List Int} (h : Wf xs) (i : Nat) {x : Int} (h0 : 0 ≤ x) (h1 : x < 18446744073709551616) : Wf (xs.set i x) := by
 intro y hy
 rcases List.mem_or_eq_of_mem_set hy with hy | rfl
 ·exact h y hy
 ·exact ⟨h0, h1⟩
theorem wf_replicate (n : Nat) : Wf (List.replicate n 0) := by
 intro x hx; rw [List.eq_of_mem_replicate hx]; decide
theorem val_nil : val [] = 0 := rfl
theorem val_cons (x : Int) (xs : List Int) : val (x :: xs) = x + B * val xs := rfl
theorem val_nonneg : ∀ {xs : List Int}, Wf xs → 0 ≤ val xs
 | [], _ => Int.le_refl _
 | x :: xs, h => by
  have := val_nonneg (wf_cons.1 h).2
  have := (wf_cons.1 h).1
  rw [val_cons, B_eq]; omega
theorem B_pow_pos (n : Nat) : 0 < B ^ n := Int.pow_pos B_pos
theorem B_pow_le {a b : Nat} (h : a ≤ b) : B ^ a ≤ B ^ b := by
 obtain ⟨d, rfl⟩ : ∃ d, b = a + d := ⟨b - a, by omega⟩
 rw [Int.pow_add]
 have h1 := B_pow_pos a
 have h2 := B_pow_pos d
 have h3 : B ^ a * 1 ≤ B ^ a * B ^ d := Int.mul_le_mul_of_nonneg_left (by omega) (by omega)
 omega
theorem val_append (xs ys : List Int) : val (xs ++ ys) = val xs + B ^ xs.length * val ys := by
 induction xs with
 | nil => simp [val_nil]
 | cons x xs ih => rw [List.cons_append, val_cons, val_cons, ih, List.length_cons, Int.pow_succ]; grind
theorem val_replicate (n : Nat) : val (List.replicate n 0) = 0 := by
 induction n with
 | zero => rfl
 | succ n ih => rw [List.replicate_succ, val_cons, ih]; rfl
theorem val_lt : ∀ {xs : List Int}, Wf xs → val xs < B ^ xs.length
 | [], _ => by decide
 | x :: xs, h => by
  have ih := val_lt (wf_cons.1 h).2
  have hx := (wf_cons.1 h).1
  have hp := B_pow_pos xs.length
  rw [val_cons, List.length_cons, Int.pow_succ]
  generalize B ^ xs.length = p at *
  rw [B_eq]; omega
theorem wd_zero {n : Int} (h : n ≤ 0) : wd n = [] := by rw [wd, dif_pos h]
theorem wd_pos {n : Int} (h : 0 < n) : wd n = (n % B) :: wd (n / B) := by rw [wd, dif_neg (by omega)]
theorem div_B_nonneg {n : Int} (h : 0 ≤ n) : 0 ≤ n / B := by rw [B_eq]; omega
theorem div_B_lt {n : Int} (h : 0 < n) : n / B < n := by rw [B_eq]; omega
theorem val_wd (n : Int) (h : 0 ≤ n) : val (wd n) = n := by
 by_cases h0 : n ≤ 0
 ·rw [wd_zero h0, val_nil]; omega
 ·rw [wd_pos (by omega), val_cons, val_wd (n / B) (div_B_nonneg h), B_eq]; omega
termination_by n.toNat
decreasing_by
 have := div_B_lt (n := n) (by omega); have := div_B_nonneg h; omega
theorem wf_wd (n : Int) (h : 0 ≤ n) : Wf (wd n) := by
 by_cases h0 : n ≤ 0
 ·rw [wd_zero h0]; exact wf_nil
 ·rw [wd_pos (by omega), wf_cons]
  exact ⟨by rw [B_eq]; omega, wf_wd (n / B) (div_B_nonneg h)⟩
termination_by n.toNat
decreasing_by
 have := div_B_lt (n := n) (by omega); have := div_B_nonneg h; omega
def Top (xs : List Int) : Prop := xs.getLast? ≠ some 0
theorem top_nil : Top [] := by simp [Top]
theorem val_pos {xs : List Int} (hw : Wf xs) (ht : Top xs) (hn : xs ≠ []) : 0 < val xs := by
 induction xs with
 | nil => exact absurd rfl hn
 | cons x xs ih =>
  have h := wf_cons.1 hw
  rw [val_cons]
  by_cases he : xs = []
  ·subst he
   have : x ≠ 0 := by simpa [Top] using ht
   rw [val_nil]; omega
  ·have ht' : Top xs := by
    unfold Top at *; rw [List.getLast?_cons] at ht
    cases hx : xs.getLast? with
    | none => simp
    | some y => rw [hx] at ht; simpa using ht
   have := ih h.2 ht' he
   rw [B_eq]; omega
theorem wd_val {xs : List Int} (hw : Wf xs) (ht : Top xs) : wd (val xs) = xs := by
 induction xs with
 | nil => rw [val_nil, wd_zero (Int.le_refl _)]
 | cons x xs ih =>
  have h := wf_cons.1 hw
  have hp := val_pos hw ht (by simp)
  have hn := val_nonneg h.2
  rw [wd_pos hp, val_cons]
  have e1 : (x + B * val xs) % B = x := by
   rw [Int.add_mul_emod_self_left]; exact Int.emod_eq_of_lt h.1.1 (by rw [B_eq]; exact h.1.2)
  have e2 : (x + B * val xs) / B = val xs := by
   rw [Int.add_mul_ediv_left _ _ (by decide)]
   have : x / B = 0 := Int.ediv_eq_zero_of_lt h.1.1 (by rw [B_eq]; exact h.1.2)
   omega
  rw [e1, e2]
  congr 1
  by_cases he : xs = []
  ·subst he; rw [val_nil, wd_zero (Int.le_refl _)]
  ·refine ih h.2 ?_
   unfold Top at *; rw [List.getLast?_cons] at ht
   cases hx : xs.getLast? with
   | none => simp
   | some y => rw [hx] at ht; simpa using ht
theorem wd_ne_nil {n : Int} (h : 0 < n) : wd n ≠ [] := by rw [wd_pos h]; simp
theorem wd_eq_nil {n : Int} : wd n = [] ↔ n ≤ 0 := by
 constructor
 ·intro h; by_cases h0 : n ≤ 0
  ·exact h0
  ·exact absurd h (wd_ne_nil (by omega))
 ·exact wd_zero
theorem top_wd (n : Int) (h : 0 ≤ n) : Top (wd n) := by
 by_cases h0 : n ≤ 0
 ·rw [wd_zero h0]; exact top_nil
 ·have ih := top_wd (n / B) (div_B_nonneg h)
  rw [wd_pos (by omega)]
  unfold Top at *
  rw [List.getLast?_cons]
  by_cases hz : n / B ≤ 0
  ·rw [wd_zero hz]
   have : n % B = n := by rw [B_eq] at *; omega
   simp [this]; omega
  ·cases hx : (wd (n / B)).getLast? with
   | none => exact absurd (List.getLast?_eq_none_iff.1 hx) (wd_ne_nil (by omega))
   | some y => rw [hx] at ih; simpa using ih
termination_by n.toNat
decreasing_by
 have := div_B_lt (n := n) (by omega); have := div_B_nonneg h; omega
theorem val_snoc_zero (xs : List Int) : val (xs ++ [0]) = val xs := by
 rw [val_append]; simp [val]
theorem wd_length_le {n : Int} (h : 0 ≤ n) {k : Nat} (hk : n < B ^ k) : (wd n).length ≤ k := by
 induction k generalizing n with
 | zero => rw [wd_zero (by simpa using Int.lt_add_one_iff.1 (by simpa using hk))]; simp
 | succ k ih =>
  by_cases h0 : n ≤ 0
  ·rw [wd_zero h0]; simp
  ·rw [wd_pos (by omega), List.length_cons]
   have : n / B < B ^ k := by
    rw [Int.pow_succ] at hk
    exact Int.ediv_lt_of_lt_mul B_pos hk
   have := ih (div_B_nonneg h) this
   omega
theorem lt_pow_of_wd_length {n : Int} (h : 0 ≤ n) {k : Nat} (hk : (wd n).length ≤ k) : n < B ^ k := by
 have h1 := val_lt (wf_wd n h)
 rw [val_wd n h] at h1
 exact Int.lt_of_lt_of_le h1 (B_pow_le hk)
theorem pow_le_of_wd_length {n : Int} {k : Nat} (hk : k < (wd n).length) : B ^ k ≤ n := by
 by_cases h : 0 ≤ n
 ·by_cases h2 : n < B ^ k
  ·have := wd_length_le h h2; omega
  ·omega
 ·rw [wd_zero (by omega)] at hk; simp at hk
theorem val_take_drop (xs : List Int) (k : Nat) (hk : k ≤ xs.length) : val xs = val (xs.take k) + B ^ k * val (xs.drop k) := by
 have h := val_append (xs.take k) (xs.drop k)
 rw [List.take_append_drop, List.length_take, Nat.min_eq_left hk] at h
 exact h
theorem val_drop {xs : List Int} (hw : Wf xs) (k : Nat) : val (xs.drop k) = val xs / B ^ k := by
 by_cases hk : k ≤ xs.length
 ·have h1 := val_take_drop xs k hk
  have h2 := val_lt (hw.take k)
  have h3 := val_nonneg (hw.take k)
  rw [List.length_take, Nat.min_eq_left hk] at h2
  rw [h1, Int.add_mul_ediv_left _ _ (by have := B_pow_pos k; omega), Int.ediv_eq_zero_of_lt h3 h2]; omega
 ·rw [List.drop_eq_nil_of_le (by omega), val_nil]
  refine (Int.ediv_eq_zero_of_lt (val_nonneg hw) (Int.lt_of_lt_of_le (val_lt hw) (B_pow_le (by omega)))).symm
theorem val_set (xs : List Int) (i : Nat) (x : Int) (hi : i < xs.length) : val (xs.set i x) = val xs + B ^ i * (x - xs.getD i 0) := by
 induction xs generalizing i with
 | nil => simp at hi
 | cons y ys ih =>
  cases i with
  | zero => simp [val_cons]; omega
  | succ i =>
   rw [List.set_cons_succ, val_cons, val_cons, ih i (by simpa using hi), Int.pow_succ]
   simp only [List.getD_cons_succ]; grind
theorem val_inj : ∀ {xs ys : List Int}, Wf xs → Wf ys → xs.length = ys.length → val xs = val ys → xs = ys
 | [], [], _, _, _, _ => rfl
 | [], _ :: _, _, _, h, _ => by simp at h
 | _ :: _, [], _, _, h, _ => by simp at h
 | x :: xs, y :: ys, h1, h2, hl, hv => by
  have a1 := wf_cons.1 h1
  have a2 := wf_cons.1 h2
  rw [val_cons, val_cons, B_eq] at hv
  have e : x = y := by omega
  have e2 : val xs = val ys := by omega
  rw [e, val_inj a1.2 a2.2 (by simpa using hl) e2]
theorem eq_wd_append {xs : List Int} (hw : Wf xs) : xs = wd (val xs) ++ List.replicate (xs.length - (wd (val xs)).length) 0 := by
 have hl := wd_length_le (val_nonneg hw) (val_lt hw)
 refine val_inj hw ?_ (by simp; omega) ?_
 ·rw [wf_append]; exact ⟨wf_wd _ (val_nonneg hw), wf_replicate _⟩
 ·rw [val_append, val_replicate, val_wd _ (val_nonneg hw)]; omega
theorem lt_of_len {x y : Int} (hx : 0 ≤ x) (hl : (wd x).length < (wd y).length) : x < y :=
 Int.lt_of_lt_of_le (lt_pow_of_wd_length hx (Nat.le_refl _)) (pow_le_of_wd_length hl)
theorem val_at (xs : List Int) (i : Nat) (hi : i < xs.length) : val xs = val (xs.take i) + B ^ i * (xs[i]?.getD 0 + B * val (xs.drop (i + 1))) := by
 rw [val_take_drop xs i (by omega), List.drop_eq_getElem_cons hi, val_cons, List.getElem?_eq_getElem hi]; rfl
theorem lt_of_word {X Y : List Int} (hx : Wf X) (hl : X.length = Y.length) (hy : Wf Y) {i : Nat} (hi : i < X.length) (hd : X.drop (i + 1) = Y.drop (i + 1))
  (h : X[i]?.getD 0 < Y[i]?.getD 0) : val X < val Y := by
 rw [val_at X i hi, val_at Y i (by omega), hd]
 have h1 := val_lt (hx.take i)
 have h2 := val_nonneg (hy.take i)
 rw [List.length_take, Nat.min_eq_left (by omega)] at h1
 have hp := B_pow_pos i
 generalize val (Y.drop (i + 1)) = z at *
 generalize X[i]?.getD 0 = a at *
 generalize Y[i]?.getD 0 = b at *
 have : B ^ i * (a + B * z) + B ^ i ≤ B ^ i * (b + B * z) := by
  have h3 : B ^ i * (a + B * z + 1) ≤ B ^ i * (b + B * z) := Int.mul_le_mul_of_nonneg_left (by omega) (by omega)
  rw [Int.mul_add, Int.mul_one] at h3; exact h3
 omega
theorem drop_same {X Y : List Int} (hl : X.length = Y.length) {i : Nat} (hi : i < X.length) (hd : X.drop (i + 1) = Y.drop (i + 1)) (h : X[i]?.getD 0 = Y[i]?.getD 0) : X.drop i = Y.drop i := by
 rw [List.drop_eq_getElem_cons hi, List.drop_eq_getElem_cons (by omega : i < Y.length), hd]
 rw [List.getElem?_eq_getElem hi, List.getElem?_eq_getElem (by omega : i < Y.length)] at h
 simp at h; rw [h]
def fill (T : List Int) (i : Nat) : List Int := T.take i ++ List.replicate (T.length - i) 0
theorem fill_zero (T : List Int) : fill T 0 = List.replicate T.length 0 := by simp [fill]
theorem fill_all (T : List Int) : fill T T.length = T := by simp [fill]
theorem fill_length (T : List Int) (i : Nat) (hi : i ≤ T.length) : (fill T i).length = T.length := by simp [fill]; omega
theorem fill_set (T : List Int) (i : Nat) (hi : i < T.length) : (fill T i).set i (T.getD i 0) = fill T (i + 1) := by
 unfold fill
 have hl : (T.take i).length = i := by simp; omega
 rw [List.set_append_right _ _ (by omega), hl, Nat.sub_self]
 obtain ⟨d, hd⟩ : ∃ d, T.length - i = d + 1 := ⟨T.length - i - 1, by omega⟩
 rw [hd, List.replicate_succ, List.set_cons_zero, List.take_add_one, List.getElem?_eq_getElem hi, List.append_assoc]
 simp [List.getD_eq_getElem?_getD, List.getElem?_eq_getElem hi]
 omega
def pw (n : Nat) : Int := 2 ^ n
theorem pw_pos (n : Nat) : 0 < pw n := Int.pow_pos (by decide)
theorem pw_add (a b : Nat) : pw (a + b) = pw a * pw b := Int.pow_add ..
theorem B_pw : B = pw 64 := by decide
theorem B_pow_pw (k : Nat) : B ^ k = pw (64 * k) := by
 rw [B_pw]; unfold pw; rw [← Int.pow_mul]
theorem B_split {r : Nat} (hr : r ≤ 64) : B = pw r * pw (64 - r) := by
 rw [← pw_add, B_pw]; congr 1; omega
def shrL (r : Nat) : List Int → List Int
 | [] => []
 | x :: xs => (x / pw r + xs.headD 0 * pw (64 - r) % B) :: shrL r xs
theorem shrL_length (r : Nat) : ∀ xs : List Int, (shrL r xs).length = xs.length
 | [] => rfl
 | x :: xs => by simp [shrL, shrL_length r xs]
theorem shrL_get (r : Nat) : ∀ (xs : List Int) (i : Nat), i < xs.length → (shrL r xs).getD i 0 = xs.getD i 0 / pw r + xs.getD (i + 1) 0 * pw (64 - r) % B
 | [], i, h => by simp at h
 | x :: xs, 0, _ => by cases xs <;> simp [shrL]
 | x :: xs, i + 1, h => by
  have := shrL_get r xs i (by simpa using h)
  simpa [shrL] using this
theorem mod_mul_left (a p q : Int) (_hp : 0 < p) (hq : 0 < q) : (a * q) % (p * q) = (a % p) * q := by
 rw [Int.mul_comm a q, Int.mul_comm p q, Int.mul_emod_mul_of_pos _ _ hq, Int.mul_comm]
theorem shrL_word {x y : Int} {r : Nat} (hr : r ≤ 64) (h0 : 0 ≤ x) (h1 : x < B) (_h2 : 0 ≤ y) : 0 ≤ x / pw r + y * pw (64 - r) % B ∧ x / pw r + y * pw (64 - r) % B < B := by
 have hp := pw_pos r
 have hq := pw_pos (64 - r)
 have hB := B_split hr
 have a1 : 0 ≤ x / pw r := Int.ediv_nonneg h0 (by omega)
 have a2 : x / pw r < pw (64 - r) := Int.ediv_lt_of_lt_mul hp (by rw [Int.mul_comm, ← hB]; exact h1)
 have b : y * pw (64 - r) % B = (y % pw r) * pw (64 - r) := by rw [hB]; exact mod_mul_left _ _ _ hp hq
 have c1 : 0 ≤ y % pw r := Int.emod_nonneg _ (by omega)
 have c2 : y % pw r < pw r := Int.emod_lt_of_pos _ hp
 have d1 : 0 ≤ (y % pw r) * pw (64 - r) := Int.mul_nonneg c1 (by omega)
 have d2 : (y % pw r + 1) * pw (64 - r) ≤ pw r * pw (64 - r) := Int.mul_le_mul_of_nonneg_right (by omega) (by omega)
 rw [Int.add_mul, Int.one_mul] at d2
 rw [b, hB]; omega
theorem wf_shrL {r : Nat} (hr : r ≤ 64) : ∀ {xs : List Int}, Wf xs → Wf (shrL r xs)
 | [], _ => wf_nil
 | x :: xs, h => by
  have h' := wf_cons.1 h
  rw [shrL, wf_cons]
  refine ⟨shrL_word hr h'.1.1 h'.1.2 ?_, wf_shrL hr h'.2⟩
  cases xs with
  | nil => simp
  | cons y ys => exact (wf_cons.1 h'.2).1.1
theorem val_mod_head {r : Nat} (hr : r ≤ 64) (xs : List Int) : val xs % pw r = xs.headD 0 % pw r := by
 cases xs with
 | nil => simp [val_nil]
 | cons y ys =>
  rw [val_cons, B_split hr, Int.mul_assoc, Int.add_mul_emod_self_left]; rfl
theorem val_shrL {r : Nat} (hr : r ≤ 64) : ∀ {xs : List Int}, Wf xs → val (shrL r xs) = val xs / pw r
 | [], _ => by simp [shrL, val_nil]
 | x :: xs, h => by
  have h' := wf_cons.1 h
  have hp := pw_pos r
  have hq := pw_pos (64 - r)
  have hB := B_split hr
  rw [shrL, val_cons, val_shrL hr h'.2, val_cons]
  have b : xs.headD 0 * pw (64 - r) % B = (val xs % pw r) * pw (64 - r) := by
   rw [val_mod_head hr, hB]; exact mod_mul_left _ _ _ hp hq
  have e : (x + B * val xs) / pw r = x / pw r + pw (64 - r) * val xs := by
   rw [hB, Int.mul_assoc, Int.add_mul_ediv_left _ _ (by omega)]
  rw [b, e]
  have hd := Int.emod_add_mul_ediv (val xs) (pw r)
  rw [hB]
  generalize val xs / pw r = d at *
  generalize val xs % pw r = m at *
  rw [← hd]; grind
theorem getD_set_same (xs : List Int) (i : Nat) (v : Int) (hi : i < xs.length) : (xs.set i v).getD i 0 = v := by
 rw [List.getD_eq_getElem?_getD, List.getElem?_set_self hi]; rfl
theorem getD_set_other (xs : List Int) (i j : Nat) (v : Int) (h : i ≠ j) : (xs.set i v).getD j 0 = xs.getD j 0 := by
 rw [List.getD_eq_getElem?_getD, List.getElem?_set_ne h, List.getD_eq_getElem?_getD]
theorem set_set (xs : List Int) (i : Nat) (u v : Int) : (xs.set i u).set i v = xs.set i v := by
 simp
def tzN (n : Nat) : Nat := if n = 0 then 0 else if n % 2 = 1 then 0 else 1 + tzN (n / 2)
termination_by n
decreasing_by omega
def tz (v : Int) : Nat := tzN v.toNat
def oddI (v : Int) : Int := v / pw (tz v)
theorem tz_zero : tz 0 = 0 := by unfold tz; rw [tzN]; rfl
theorem oddI_zero : oddI 0 = 0 := by simp [oddI]
theorem tzN_odd (a m : Nat) : tzN (2 ^ a * (2 * m + 1)) = a := by
 induction a with
 | zero => rw [tzN]; simp
 | succ a ih =>
  have e : 2 ^ (a + 1) * (2 * m + 1) = 2 * (2 ^ a * (2 * m + 1)) := by rw [Nat.pow_succ]; grind
  have h0 : 0 < 2 ^ a * (2 * m + 1) := Nat.mul_pos (Nat.two_pow_pos a) (by omega)
  rw [e, tzN, if_neg (by omega), if_neg (by omega), Nat.mul_div_cancel_left _ (by omega), ih]; omega
theorem tz_odd (a : Nat) {u : Int} (hu : u % 2 = 1) (h0 : 0 ≤ u) : tz (pw a * u) = a := by
 obtain ⟨m, rfl⟩ : ∃ m : Nat, u = 2 * (m : Int) + 1 := ⟨(u / 2).toNat, by omega⟩
 unfold tz
 have e : (pw a * (2 * (m : Int) + 1)).toNat = 2 ^ a * (2 * m + 1) := by
  have : pw a * (2 * (m : Int) + 1) = ((2 ^ a * (2 * m + 1) : Nat) : Int) := by unfold pw; simp
  rw [this]; rfl
 rw [e, tzN_odd]
theorem oddI_odd (a : Nat) {u : Int} (hu : u % 2 = 1) (h0 : 0 ≤ u) : oddI (pw a * u) = u := by
 unfold oddI
 rw [tz_odd a hu h0, Int.mul_ediv_cancel_left _ (by have := pw_pos a; omega)]
theorem tzN_spec (n : Nat) (h : 0 < n) : ∃ m, n = 2 ^ tzN n * (2 * m + 1) := by
 rw [tzN, if_neg (by omega)]
 by_cases h1 : n % 2 = 1
 ·rw [if_pos h1]; exact ⟨n / 2, by simp; omega⟩
 ·rw [if_neg h1]
  obtain ⟨m, hm⟩ := tzN_spec (n / 2) (by omega)
  refine ⟨m, ?_⟩
  rw [Nat.pow_add, Nat.mul_assoc, ← hm]; omega
termination_by n
decreasing_by omega
theorem odd_split {v : Int} (h : 0 < v) : v = pw (tz v) * oddI v ∧ oddI v % 2 = 1 ∧ 0 < oddI v := by
 obtain ⟨n, rfl⟩ := Int.eq_ofNat_of_zero_le (Int.le_of_lt h)
 obtain ⟨m, hm⟩ := tzN_spec n (by omega)
 have e : (n : Int) = pw (tz n) * (2 * (m : Int) + 1) := by
  have : tz (n : Int) = tzN n := rfl
  rw [this]
  have h2 : (n : Int) = ((2 ^ tzN n * (2 * m + 1) : Nat) : Int) := congrArg _ hm
  rw [h2]; unfold pw; simp
 have o : oddI (n : Int) = 2 * (m : Int) + 1 := by
  unfold oddI
  conv => lhs; lhs; rw [e]
  exact Int.mul_ediv_cancel_left _ (by have := pw_pos (tz n); omega)
 rw [o]
 exact ⟨e, by omega, by omega⟩
theorem odd_of_split {v u : Int} {a : Nat} (h : v = pw a * u) (hu : u % 2 = 1) (h0 : 0 ≤ u) : tz v = a ∧ oddI v = u := by
 subst h; exact ⟨tz_odd a hu h0, oddI_odd a hu h0⟩
theorem oddI_nonneg {v : Int} (h : 0 ≤ v) : 0 ≤ oddI v := Int.ediv_nonneg h (Int.le_of_lt (pw_pos _))
theorem oddI_pos {v : Int} (h : 0 < v) : 0 < oddI v := (odd_split h).2.2
theorem odd_words {xs : List Int} (hw : Wf xs) {k z : Nat} (hk : k < xs.length) (hz : z < 64) {u : Int} (hx : xs[k]?.getD 0 = pw z * u) (hu : u % 2 = 1) (h0 : 0 ≤ u) (hl : val (xs.take k) = 0) :
  tz (val xs) = 64 * k + z ∧ oddI (val xs) = val (xs.drop k) / pw z := by
 have e := val_at xs k hk
 rw [hl, hx, Int.zero_add, B_pow_pw] at e
 have e2 : B = pw z * pw (64 - z) := B_split (by omega)
 have e3 : pw (64 - z) = 2 * pw (63 - z) := by
  rw [show 64 - z = 1 + (63 - z) from by omega, pw_add]; rfl
 have hp := pw_pos (63 - z)
 have hd : 0 ≤ val (xs.drop (k + 1)) := val_nonneg (hw.drop _)
 have hD : val (xs.drop k) = pw z * (u + 2 * (pw (63 - z) * val (xs.drop (k + 1)))) := by
  rw [List.drop_eq_getElem_cons hk, val_cons]
  rw [List.getElem?_eq_getElem hk] at hx
  have : xs[k] = pw z * u := hx
  rw [this, e2, e3]; grind
 have hm : 0 ≤ pw (63 - z) * val (xs.drop (k + 1)) := Int.mul_nonneg (by omega) hd
 have e4 : val xs = pw (64 * k + z) * (u + 2 * (pw (63 - z) * val (xs.drop (k + 1)))) := by
  rw [e, pw_add, e2, e3]; grind
 obtain ⟨a, b⟩ := odd_of_split e4 (by omega) (by omega)
 refine ⟨a, ?_⟩
 rw [b, hD, Int.mul_ediv_cancel_left _ (by have := pw_pos z; omega)]
theorem pw_le {a b : Nat} (h : a ≤ b) : pw a ≤ pw b := by
 obtain ⟨d, rfl⟩ : ∃ d, b = a + d := ⟨b - a, by omega⟩
 rw [pw_add]
 have h1 := pw_pos a
 have h2 := pw_pos d
 have : pw a * 1 ≤ pw a * pw d := Int.mul_le_mul_of_nonneg_left (by omega) (by omega)
 omega
theorem pw_lt_iff {a b : Nat} : pw a < pw b ↔ a < b := by
 constructor
 ·intro h
  by_cases hh : a < b
  ·exact hh
  ·have := pw_le (show b ≤ a by omega); omega
 ·intro h
  have h1 := pw_le (show a + 1 ≤ b by omega)
  have h2 : pw (a + 1) = pw a * 2 := pw_add a 1
  have := pw_pos a
  omega
theorem tz_lt {xs : List Int} (hw : Wf xs) (h : 0 < val xs) : tz (val xs) < 64 * xs.length := by
 obtain ⟨h1, _, h3⟩ := odd_split h
 have h4 := val_lt hw
 rw [B_pow_pw] at h4
 have h5 : pw (tz (val xs)) * 1 ≤ pw (tz (val xs)) * oddI (val xs) := Int.mul_le_mul_of_nonneg_left (by omega) (by have := pw_pos (tz (val xs)); omega)
 rw [← h1] at h5
 exact pw_lt_iff.1 (by omega)
theorem wd_small {x : Int} (h0 : 0 < x) (h1 : x < 18446744073709551616) : wd x = [x] := by
 rw [wd_pos h0]
 have e : x / B = 0 := by rw [B_eq]; omega
 have e2 : x % B = x := by rw [B_eq]; omega
 rw [e, e2, wd_zero (Int.le_refl _)]
end Go.Proofs.YteffemhapnbaeaaGreatDoor.Num
namespace Go.Proofs.YteffemhapnbaeaaGreatDoor
open Go.RowKit Num
structure Arr (w : World) (A : Option Addr) (n c : Nat) (xs : List Int) : Prop where
 len : xs.length = n
 wf : Wf xs
 cap : n ≤ c
 big : c ≤ 9223372036854775807
 mem : 0 < n → ∃ b o, A = some ⟨b, o, none⟩ ∧ b < w.heap.size ∧ ∀ j, j < n → w.cell? ⟨b, o + j, none⟩ = some (.int .u64 (xs.getD j 0))
theorem Arr.mk' {w : World} {b o n c : Nat} {xs : List Int} (len : xs.length = n) (wf : Wf xs) (cap : n ≤ c) (big : c ≤ 9223372036854775807) (hb : b < w.heap.size)
  (hc : ∀ j, j < n → w.cell? ⟨b, o + j, none⟩ = some (.int .u64 (xs.getD j 0))) : Arr w (some ⟨b, o, none⟩) n c xs :=
 ⟨len, wf, cap, big, fun _ => ⟨b, o, rfl, hb, hc⟩⟩
theorem Arr.below {w w' : World} {A : Option Addr} {n c : Nat} {xs : List Int} (h : Arr w A n c xs) (hb : Below w.heap.size w w') : Arr w' A n c xs := by
 refine ⟨h.len, h.wf, h.cap, h.big, fun hn => ?_⟩
 obtain ⟨b, o, e, hlt, hc⟩ := h.mem hn
 exact ⟨b, o, e, Nat.lt_of_lt_of_le hlt hb.size, fun j hj => (hb.cell (p := ⟨b, o + j, none⟩) hlt).trans (hc j hj)⟩
theorem Arr.nil (w : World) (A : Option Addr) (c : Nat) (hc : c ≤ 9223372036854775807) : Arr w A 0 c [] :=
 ⟨rfl, wf_nil, Nat.zero_le _, hc, fun h => absurd h (by omega)⟩
theorem Arr.nothing (w : World) : Arr w none 0 0 [] := Arr.nil w _ _ (by omega)
theorem Arr.take {w : World} {A : Option Addr} {n c : Nat} {xs : List Int} (h : Arr w A n c xs) (k : Nat) (hk : k ≤ n) : Arr w A k c (xs.take k) := by
 have hl := h.len
 refine ⟨by simp; omega, h.wf.take k, Nat.le_trans hk h.cap, h.big, fun hn => ?_⟩
 obtain ⟨b, o, e, hlt, hc⟩ := h.mem (by omega)
 refine ⟨b, o, e, hlt, fun j hj => ?_⟩
 rw [hc j (by omega)]
 congr 2
 simp only [List.getD_eq_getElem?_getD, List.getElem?_take]
 rw [if_pos hj]
theorem Arr.drop {w : World} {b o n c : Nat} {xs : List Int} (h : Arr w (some ⟨b, o, none⟩) n c xs) (k : Nat) (hk : k ≤ n) : Arr w (some ⟨b, o + k, none⟩) (n - k) (c - k) (xs.drop k) := by
 have hl := h.len
 have h1 := h.cap
 have h2 := h.big
 refine ⟨by simp; omega, h.wf.drop k, by omega, by omega, fun hn => ?_⟩
 obtain ⟨b', o', e, hlt, hc⟩ := h.mem (by omega)
 cases e
 refine ⟨b, o + k, rfl, hlt, fun j hj => ?_⟩
 rw [Nat.add_assoc, hc (k + j) (by omega)]
 congr 2
 simp only [List.getD_eq_getElem?_getD, List.getElem?_drop]
theorem Arr.words {w : World} {A : Option Addr} {n c : Nat} {xs : List Int} (h : Arr w A n c xs) (i : Nat) : 0 ≤ xs.getD i 0 ∧ xs.getD i 0 < 18446744073709551616 := h.wf.getD i
theorem Bc {w w1 w2 : World} (h : Below w.heap.size w w1) (k : Below w1.heap.size w1 w2) : Below w.heap.size w w2 :=
 h.trans ⟨k.os, k.tape, k.output, k.size, fun i hi => k.block i (Nat.lt_of_lt_of_le hi h.size)⟩
theorem Ba {w W : World} (h : Below w.heap.size w W) (o : Obj) : Below w.heap.size w (W.alloc o) := h.alloc h.size o
theorem Bb (w : World) : Below w.heap.size w w := Below.refl _ _
theorem Bo {w W : World} (h : Below w.heap.size w W) (g o : Nat) (hg : w.heap.size ≤ g) (v : Value) : Below w.heap.size w (W.setCell ⟨g, o, none⟩ v) := h.setCell hg v
theorem Dd {xs : List Int} {k : Nat} (h0 : 0 < k) (hk : k ≤ xs.length) : xs.take k = xs.take (k - 1) ++ [xs[k - 1]?.getD 0] := by
 obtain ⟨j, rfl⟩ : ∃ j, k = j + 1 := ⟨k - 1, by omega⟩
 rw [Nat.add_sub_cancel, List.take_add_one, List.getElem?_eq_getElem (by omega)]
 rfl
theorem trim_go {xs : List Int} {k : Nat} (h0 : 0 < k) (hk : k ≤ xs.length) (hz : xs[k - 1]?.getD 0 = 0) (hv : val (xs.take k) = val xs) : val (xs.take (k - 1)) = val xs := by
 rw [Dd h0 hk, hz, val_snoc_zero] at hv
 exact hv
theorem trim_end {xs : List Int} {k : Nat} (hw : Wf xs) (h0 : 0 < k) (hk : k ≤ xs.length) (hz : xs[k - 1]?.getD 0 ≠ 0) (hv : val (xs.take k) = val xs) : wd (val xs) = xs.take k := by
 rw [← hv]
 refine wd_val (hw.take k) ?_
 unfold Top
 rw [Dd h0 hk]
 simpa using hz
theorem wd_take {xs : List Int} (hw : Wf xs) : xs.take (wd (val xs)).length = wd (val xs) := by
 have h := eq_wd_append hw
 conv => lhs; rw [h]
 rw [List.take_left']
 rw [← h]
theorem wd_len {xs : List Int} (hw : Wf xs) : (wd (val xs)).length ≤ xs.length := wd_length_le (val_nonneg hw) (val_lt hw)
theorem Arr.trim {w : World} {A : Option Addr} {n c : Nat} {xs : List Int} (h : Arr w A n c xs) : Arr w A (wd (val xs)).length c (wd (val xs)) := by
 have := h.take (wd (val xs)).length (by rw [← h.len]; exact wd_len h.wf)
 rwa [wd_take h.wf] at this
theorem Arr.val_nonneg {w : World} {A : Option Addr} {n c : Nat} {xs : List Int} (h : Arr w A n c xs) : 0 ≤ val xs := Num.val_nonneg h.wf
def Still (w w' : World) : Prop := ∃ n, w' = w.drewN n
theorem Still.refl (w : World) : Still w w := ⟨0, rfl⟩
theorem Still.drewN {w w1 : World} (h : Still w w1) (n : Nat) : Still w (w1.drewN n) := by
 obtain ⟨m, rfl⟩ := h; exact ⟨m + n, World.drewN_drewN ..⟩
theorem Still.drew {w w1 : World} (h : Still w w1) : Still w w1.drew := by
 obtain ⟨m, rfl⟩ := h; exact ⟨m + 1, rfl⟩
theorem Still.trans {a b c : World} (h : Still a b) (k : Still b c) : Still a c := by
 obtain ⟨m, rfl⟩ := k; exact h.drewN m
theorem Bd {B : Nat} {w W : World} (h : Below B w W) (n : Nat) : Below B w (W.drewN n) := ⟨h.os, h.tape, h.output, h.size, h.block⟩
theorem Still.below {w w' : World} (h : Still w w') (B : Nat) : Below B w w' := by
 obtain ⟨n, rfl⟩ := h; exact Bd (Below.refl _ _) n
def Cs (x y : Int) : Int := if x < y then -1 else if x = y then 0 else 1
theorem Bdl {a b : Int} {s : Nat} (hs : s ≤ 64) (ha : 0 ≤ a) (ha' : a < pw s) (hb : 0 ≤ b) (hb' : b * pw s < 18446744073709551616) : bits .or .u64 a (b * pw s) = a + b * pw s := by
 obtain ⟨x, rfl⟩ := Int.eq_ofNat_of_zero_le ha
 obtain ⟨y, rfl⟩ := Int.eq_ofNat_of_zero_le hb
 have e : (y : Int) * pw s = ((y * 2 ^ s : Nat) : Int) := by unfold pw; simp
 have hx : x < 2 ^ s := by
  have : (x : Int) < ((2 ^ s : Nat) : Int) := by simpa [pw] using ha'
  omega
 have hx2 : x < 18446744073709551616 := Nat.lt_of_lt_of_le hx (by
  have : (2 : Nat) ^ s ≤ 2 ^ 64 := Nat.pow_le_pow_right (by decide) hs
  omega)
 rw [e] at hb' ⊢
 rw [bits_or_u64_nat x _ hx2 (by omega), Nat.or_comm, Nat.mul_comm, ← Nat.two_pow_add_eq_or_of_lt hx]
 omega
theorem Bf1 {x : Int} (h0 : 0 ≤ x) (h1 : x < 18446744073709551616) : bits .and .u64 x 1 = x % 2 := by
 obtain ⟨n, rfl⟩ := Int.eq_ofNat_of_zero_le h0
 have := bits_and_u64_nat n 1 (by omega) (by omega)
 have e : ((1 : Nat) : Int) = 1 := rfl
 rw [e] at this
 rw [this, Nat.and_one_is_mod]
 simp
theorem Ht {a b : Bool} (h : a = b) : Ending.returned (.bool a) = Ending.returned (.bool b) := by rw [h]
theorem Xf {x y : Int} {r : Nat} (hr : r ≤ 64) (hx0 : 0 ≤ x) (hx : x < 18446744073709551616) (_hy0 : 0 ≤ y) :
  bits .or .u64 (x / 2 ^ r) (IntKind.u64.wrap (y * 2 ^ (64 - r))) = x / pw r + y * pw (64 - r) % B := by
 have hp := pw_pos r
 have hq := pw_pos (64 - r)
 have hB := B_split hr
 have b : y * pw (64 - r) % B = (y % pw r) * pw (64 - r) := by rw [hB]; exact mod_mul_left _ _ _ hp hq
 have c1 : 0 ≤ y % pw r := Int.emod_nonneg _ (by omega)
 have c2 : y % pw r < pw r := Int.emod_lt_of_pos _ hp
 have a1 : 0 ≤ x / pw r := Int.ediv_nonneg hx0 (by omega)
 have a2 : x / pw r < pw (64 - r) := Int.ediv_lt_of_lt_mul hp (by rw [Int.mul_comm, ← hB]; exact hx)
 have d2 : (y % pw r + 1) * pw (64 - r) ≤ pw r * pw (64 - r) := Int.mul_le_mul_of_nonneg_right (by omega) (by omega)
 rw [Int.add_mul, Int.one_mul, ← hB] at d2
 have e := Bdl (s := 64 - r) (by omega) a1 a2 c1 (by rw [← B_eq]; omega)
 rw [IntKind.wrap_u64]
 show bits .or .u64 (x / pw r) (y * pw (64 - r) % B) = _
 rw [b]; exact e
structure Box (w : World) (g : Nat) (cs : Array Value) (t : TypeId) : Prop where
 heap : w.heap[g]? = some (.cells cs t (0, 0))
theorem Box.lt {w : World} {g : Nat} {cs : Array Value} {t : TypeId} (h : Box w g cs t) : g < w.heap.size := (Array.getElem?_eq_some_iff.1 h.heap).1
theorem Box.cell {w : World} {g : Nat} {cs : Array Value} {t : TypeId} (h : Box w g cs t) (i : Nat) : w.cell? ⟨g, i, none⟩ = cs[i]? := cell_of_row w g i _ _ _ h.heap
theorem Box.free {w : World} {g : Nat} {cs : Array Value} {t : TypeId} (h : Box w g cs t) (i : Nat) : w.frozen? ⟨g, i, none⟩ = false := frozen_of_row w g i _ _ h.heap
theorem Box.below {w w' : World} {B g : Nat} {cs : Array Value} {t : TypeId} (h : Box w g cs t) (hb : Below B w w') (hg : g < B) : Box w' g cs t := ⟨(hb.block g hg).trans h.heap⟩
theorem Box.later {w w' : World} {g : Nat} {cs : Array Value} {t : TypeId} (h : Box w g cs t) (hb : Below w.heap.size w w') : Box w' g cs t := h.below hb h.lt
theorem Bg (w : World) (cs : Array Value) (t : TypeId) : Box (w.alloc (.cells cs t)) w.heap.size cs t := ⟨heap_alloc_new w _⟩
theorem Box.set {w : World} {g : Nat} {cs : Array Value} {t : TypeId} (h : Box w g cs t) (i : Nat) (v : Value) : Box (w.setCell ⟨g, i, none⟩ v) g (cs.setIfInBounds i v) t := ⟨heap_setCell_same w g i _ _ v h.heap⟩
theorem Box.cell3 {w : World} {g : Nat} {a b c : Value} {t : TypeId} (h : Box w g #[a, b, c] t) : w.cell? ⟨g, 0, none⟩ = some a ∧ w.cell? ⟨g, 1, none⟩ = some b ∧ w.cell? ⟨g, 2, none⟩ = some c ∧ w.frozen? ⟨g, 0, none⟩ = false ∧ w.frozen? ⟨g, 1, none⟩ = false ∧ w.frozen? ⟨g, 2, none⟩ = false :=
 ⟨h.cell 0, h.cell 1, h.cell 2, h.free 0, h.free 1, h.free 2⟩
theorem Arr.set_box {w : World} {A : Option Addr} {n c : Nat} {xs : List Int} (h : Arr w A n c xs) {g : Nat} {cs : Array Value} {t : TypeId} (hb : Box w g cs t) (hno : ∀ (i : Nat) (x : Int), cs[i]? ≠ some (Value.int .u64 x)) (i : Nat) (v : Value) : Arr (w.setCell ⟨g, i, none⟩ v) A n c xs := by
 refine ⟨h.len, h.wf, h.cap, h.big, fun hn => ?_⟩
 obtain ⟨b, o, e, hlt, hc⟩ := h.mem hn
 refine ⟨b, o, e, by simpa using hlt, fun j hj => ?_⟩
 have hne : b ≠ g := by
  rintro rfl
  have := hc 0 hn
  rw [hb.cell] at this
  exact hno _ _ this
 have hne2 : (⟨g, i, none⟩ : Addr) ≠ ⟨b, o + j, none⟩ := by intro hh; injection hh with hh; exact hne hh.symm
 exact (World.cell?_setCell_other w _ _ v hne2).trans (hc j hj)
theorem no3 {a b c : Value} (ha : ∀ x, a ≠ Value.int .u64 x) (hb : ∀ x, b ≠ Value.int .u64 x) (hc : ∀ x, c ≠ Value.int .u64 x) : ∀ (i : Nat) (x : Int), (#[a, b, c] : Array Value)[i]? ≠ some (Value.int .u64 x)
 | 0, x => by simpa using ha x
 | 1, x => by simpa using hb x
 | 2, x => by simpa using hc x
 | i + 3, x => by simp
theorem Arr.set3 {w : World} {A : Option Addr} {n c : Nat} {xs : List Int} (h : Arr w A n c xs) {g : Nat} {t : TypeId} {p : Bool} {A' : Option Addr} {n' c' : Nat} {e : Int} (hb : Box w g #[.bool p, .slice A' n' c', .int .i64 e] t) (x z y : Value) (hx : ∀ k, x ≠ Value.int .u64 k) (hz : ∀ k, z ≠ Value.int .u64 k) :
  Arr (((w.setCell ⟨g, 0, none⟩ x).setCell ⟨g, 1, none⟩ z).setCell ⟨g, 2, none⟩ y) A n c xs := by
 have h1 := h.set_box hb (no3 (by simp) (by simp) (by simp)) 0 x
 have hb1 : Box (w.setCell ⟨g, 0, none⟩ x) g #[x, .slice A' n' c', .int .i64 e] t := hb.set 0 x
 have h2 := h1.set_box hb1 (no3 hx (by simp) (by simp)) 1 z
 have hb2 : Box ((w.setCell ⟨g, 0, none⟩ x).setCell ⟨g, 1, none⟩ z) g #[x, z, .int .i64 e] t := hb1.set 1 z
 exact h2.set_box hb2 (no3 hx hz (by simp)) 2 y
def cellsOf (xs : List Int) : List Value := xs.map (Value.int .u64)
structure Row (w : World) (g : Nat) (xs : List Int) : Prop where
 wf : Wf xs
 heap : ∃ rest, w.heap[g]? = some (.cells (cellsOf xs ++ rest).toArray 51 (0, 0))
theorem Kn (xs : List Int) (i : Nat) (hi : i < xs.length) (rest : List Value) : (cellsOf xs ++ rest)[i]? = some (.int .u64 (xs.getD i 0)) := by
 rw [List.getElem?_append_left (by simpa [cellsOf] using hi)]
 simp [cellsOf, List.getD_eq_getElem?_getD, List.getElem?_eq_getElem hi]
theorem Row.lt {w : World} {g : Nat} {xs : List Int} (h : Row w g xs) : g < w.heap.size := by
 obtain ⟨rest, hh⟩ := h.heap; exact (Array.getElem?_eq_some_iff.1 hh).1
theorem Row.cell {w : World} {g : Nat} {xs : List Int} (h : Row w g xs) (i : Nat) (hi : i < xs.length) : w.cell? ⟨g, i, none⟩ = some (.int .u64 (xs.getD i 0)) := by
 obtain ⟨rest, hh⟩ := h.heap
 rw [cell_of_row w g i _ _ _ hh, List.getElem?_toArray, Kn xs i hi]
theorem Row.free {w : World} {g : Nat} {xs : List Int} (h : Row w g xs) (i : Nat) : w.frozen? ⟨g, i, none⟩ = false := by
 obtain ⟨rest, hh⟩ := h.heap
 exact frozen_of_row w g i _ _ hh
theorem Wh (xs : List Int) (i : Nat) (hi : i < xs.length) (rest : List Value) (v : Int) : (cellsOf xs ++ rest).set i (.int .u64 v) = cellsOf (xs.set i v) ++ rest := by
 rw [List.set_append_left _ _ (by simpa [cellsOf] using hi)]
 simp [cellsOf, List.map_set]
theorem Row.set {w : World} {g : Nat} {xs : List Int} (h : Row w g xs) (i : Nat) (hi : i < xs.length) (v : Int) (h0 : 0 ≤ v) (h1 : v < 18446744073709551616) : Row (w.setCell ⟨g, i, none⟩ (.int .u64 v)) g (xs.set i v) := by
 obtain ⟨rest, hh⟩ := h.heap
 refine ⟨h.wf.set i h0 h1, rest, ?_⟩
 rw [heap_setCell_same w g i _ _ _ hh, ← Wh xs i hi]
 simp
theorem Row.below {w w' : World} {B g : Nat} {xs : List Int} (h : Row w g xs) (hb : Below B w w') (hg : g < B) : Row w' g xs := by
 obtain ⟨rest, hh⟩ := h.heap
 exact ⟨h.wf, rest, (hb.block g hg).trans hh⟩
theorem Row.drewN {w : World} {g : Nat} {xs : List Int} (h : Row w g xs) (n : Nat) : Row (w.drewN n) g xs := ⟨h.wf, h.heap⟩
theorem Row.drew {w : World} {g : Nat} {xs : List Int} (h : Row w g xs) : Row w.drew g xs := ⟨h.wf, h.heap⟩
theorem Row.arr {w : World} {g c : Nat} {xs : List Int} (h : Row w g xs) (hc : xs.length ≤ c) (hb : c ≤ 9223372036854775807) : Arr w (some ⟨g, 0, none⟩) xs.length c xs :=
 ⟨rfl, h.wf, hc, hb, fun _ => ⟨g, 0, rfl, h.lt, fun j hj => by rw [Nat.zero_add]; exact h.cell j hj⟩⟩
theorem Row.arr' {w : World} {g n c : Nat} {xs : List Int} (h : Row w g xs) (hn : xs.length = n) (hc : n ≤ c) (hb : c ≤ 9223372036854775807) : Arr w (some ⟨g, 0, none⟩) n c xs := by
 subst hn; exact h.arr hc hb
theorem Row.fill {w : World} {g i : Nat} {T : List Int} (h : Row w g (fill T i)) (hi : i < T.length) (hT : Wf T) (v : Int) (hv : v = T.getD i 0) : Row (w.setCell ⟨g, i, none⟩ (.int .u64 v)) g (Num.fill T (i + 1)) := by
 subst hv
 have := h.set i (by rw [fill_length _ _ (by omega)]; exact hi) _ (hT.getD i).1 (hT.getD i).2
 rwa [fill_set T i hi] at this
theorem Row.fill2 {w : World} {g i : Nat} {T : List Int} {u : Int} (h : Row w g ((Num.fill T i).set i u)) (hi : i < T.length) (hT : Wf T) (v : Int) (hv : v = T.getD i 0) : Row (w.setCell ⟨g, i, none⟩ (.int .u64 v)) g (Num.fill T (i + 1)) := by
 subst hv
 have := h.set i (by rw [List.length_set, fill_length _ _ (by omega)]; exact hi) _ (hT.getD i).1 (hT.getD i).2
 rwa [set_set, fill_set T i hi] at this
theorem Su : (Tryz.prog.info? 51).map (fun i => (i.zero, i.size, i.bytes)) = some (some (.int .u64 0), 1, 8) := by kernel_rfl
theorem Hx (n : Nat) : (madeCells #[Value.int .u64 0] (n * 1)).toList = cellsOf (List.replicate n 0) := by
 rw [Nat.mul_one, toList_madeCells_one]; simp [cellsOf]
theorem Rc {w w' : World} (h : w.grownBy w' none) : Below w.heap.size w w' := ⟨h.os, h.tape, h.output, h.size, fun i hi => h.block i hi (by simp)⟩
theorem Jc {w : World} {ops : Array Oper} {rest : List Oper} {o : Oper} {a : Act} {Q : Exit → Act → World → Prop} (hg : o.guard = none) (l c : Operand) (hop : o.op = Op.makeSlice 24 l c)
  (L C : Int) (n : Nat) (hl : a.eval l = .int .i64 L) (hc : a.eval c = .int .i64 C) (hL : L = (n : Int)) (hC : C = (n : Int)) (hn : n ≤ 35184372088832)
  (hK : ∀ g w', g = w.heap.size → Row w' g (List.replicate n 0) → Below g w w' → wpList Tryz.prog ops Q rest (a.put o.dst (.slice (some ⟨g, 0, none⟩) n n)) w') :
  wpList Tryz.prog ops Q (o :: rest) a w := by
 obtain ⟨i0, hi, hz0, hz1, hz2⟩ := info_parts Su
 refine wpList_make_full w hg l c 24 hop w.heap.size 51 i0 (.int .u64 0) 1 Tryz.underlying24 hi hz0 hz1 .i64 .i64 L C n hl hc hL hC (by rw [hz2]; omega) (by unfold maxLen; omega) (Nat.le_refl _) ?_
 intro w' hown hgrow
 refine hK _ w' rfl ⟨wf_replicate n, ?_⟩ (Rc hgrow)
 rcases hown.2 with ⟨h, _⟩ | ⟨g, cap, cur, h, _, hh, _, _, hs, ht⟩
 ·cases h
 ·cases h
  refine ⟨[], ?_⟩
  have e : (Value.int IntKind.u64 0).cells = #[Value.int .u64 0] := rfl
  rw [e, Hx] at ht
  rw [List.append_nil, hh, ← ht]
  have e2 : (cur.toList.take (n * 1)).toArray = cur := by
   rw [List.take_of_length_le (by simp; omega)]
  rw [e2]
theorem Ds (x : Int) : val [x] = x := by simp [val]
theorem Vz {x : Int} (h0 : 0 ≤ x) (h1 : x < 18446744073709551616) : Wf [x] := wf_cons.2 ⟨⟨h0, h1⟩, wf_nil⟩
theorem Db {w : World} {g : Nat} (hg : g = w.heap.size) (x : Int) (h0 : 0 ≤ x) (h1 : x < 18446744073709551616) : Arr (w.alloc (.cells #[.int .u64 x] 51)) (some ⟨g, 0, none⟩) 1 1 [x] := by
 subst hg
 exact Arr.mk' rfl (Vz h0 h1) (by omega) (by omega) (by simp) (fun j hj => by
  obtain rfl : j = 0 := by omega
  exact (Bg w _ _).cell 0)
open Go.Shelf Go.RowKit
def Bf9 : Go.Shelf.Ren := ⟨fun | 129 => 129 | n => n, fun | 53 => 51 | 3 => 3 | 4 => 4 | 46 => 118 | 5 => 5 | 9 => 9 | n => n, fun | n => n⟩
theorem Bgv : Go.Proofs.Lays.n129 Tryz.prog Bf9 := {
 mixed := by kernel_rfl
 f129 := Tryz.func129.trans (congrArg some (by kernel_rfl))
 t3 := Tryz.underlying3
 a3 := Tryz.isAgg3
 z3 := Tryz.sizeOf3
 v3 := Tryz.zeroValue3
 t4 := Tryz.underlying4
 a4 := Tryz.isAgg4
 z4 := Tryz.sizeOf4
 v4 := Tryz.zeroValue4
 t5 := Tryz.underlying5
 a5 := Tryz.isAgg5
 z5 := Tryz.sizeOf5
 v5 := Tryz.zeroValue5
 t9 := Tryz.underlying9
 a9 := Tryz.isAgg9
 z9 := Tryz.sizeOf9
 v9 := Tryz.zeroValue9
 t46 := Tryz.underlying118
 a46 := Tryz.isAgg118
 z46 := Tryz.sizeOf118
 v46 := Tryz.zeroValue118
 t53 := Tryz.underlying51
 a53 := Tryz.isAgg51
 z53 := Tryz.sizeOf51
 v53 := Tryz.zeroValue51 }
theorem len64 (x : Int) (w : World) (h0 : 0 ≤ x) (h1 : x < 18446744073709551616) :
  Calls Tryz.prog 129 #[.int .u64 x] w fun e w' => e = .returned (.int .i64 (Lib.bitLen x.toNat)) ∧ w = w' := (Any.bits_Len64 Bgv x w h0 (by omega)).mono fun _ _ ⟨a, b⟩ => ⟨a, b.symm⟩
def Bfa : Go.Shelf.Ren := ⟨fun | 134 => 131 | 129 => 129 | n => n, fun | 53 => 51 | 3 => 3 | 4 => 4 | 46 => 118 | 5 => 5 | 9 => 9 | n => n, fun | n => n⟩
theorem Bgw : Go.Proofs.Lays.n134 Tryz.prog Bfa := {
 mixed := by kernel_rfl
 f129 := Tryz.func129.trans (congrArg some (by kernel_rfl))
 f134 := Tryz.func131.trans (congrArg some (by kernel_rfl))
 t3 := Tryz.underlying3
 a3 := Tryz.isAgg3
 z3 := Tryz.sizeOf3
 v3 := Tryz.zeroValue3
 t4 := Tryz.underlying4
 a4 := Tryz.isAgg4
 z4 := Tryz.sizeOf4
 v4 := Tryz.zeroValue4
 t5 := Tryz.underlying5
 a5 := Tryz.isAgg5
 z5 := Tryz.sizeOf5
 v5 := Tryz.zeroValue5
 t9 := Tryz.underlying9
 a9 := Tryz.isAgg9
 z9 := Tryz.sizeOf9
 v9 := Tryz.zeroValue9
 t46 := Tryz.underlying118
 a46 := Tryz.isAgg118
 z46 := Tryz.sizeOf118
 v46 := Tryz.zeroValue118
 t53 := Tryz.underlying51
 a53 := Tryz.isAgg51
 z53 := Tryz.sizeOf51
 v53 := Tryz.zeroValue51 }
theorem Yy (x : Int) (w : World) (h0 : 0 ≤ x) (h1 : x < 18446744073709551616) :
  Calls Tryz.prog 131 #[.int .u64 x] w fun e w' => e = .returned (.int .i64 (64 - (Lib.bitLen x.toNat : Int))) ∧ w = w' := (Any.bits_LeadingZeros64 Bgw x w h0 (by omega)).mono fun _ _ ⟨a, b⟩ => ⟨a, b.symm⟩
def Bfb : Go.Shelf.Ren := ⟨fun | 264 => 132 | n => n, fun | 53 => 51 | 46 => 118 | n => n, fun | n => n⟩
theorem Bgx : Go.Proofs.Lays.n264 Tryz.prog Bfb := {
 mixed := by kernel_rfl
 f264 := Tryz.func132.trans (congrArg some (by kernel_rfl))
 t46 := Tryz.underlying118
 a46 := Tryz.isAgg118
 z46 := Tryz.sizeOf118
 v46 := Tryz.zeroValue118
 t53 := Tryz.underlying51
 a53 := Tryz.isAgg51
 z53 := Tryz.sizeOf51
 v53 := Tryz.zeroValue51 }
theorem Bg3 (x y : Int) (w : World) (hx0 : 0 ≤ x) (hx : x < 18446744073709551616) (hy0 : 0 ≤ y) (hy : y < 18446744073709551616) :
  Calls Tryz.prog 132 #[.int .u64 x, .int .u64 y] w fun e w' => e = .returned (.tuple #[.int .u64 (x * y / 18446744073709551616), .int .u64 (x * y % 18446744073709551616)]) ∧ w = w' := by
 obtain ⟨a, rfl⟩ := Int.eq_ofNat_of_zero_le hx0
 obtain ⟨b, rfl⟩ := Int.eq_ofNat_of_zero_le hy0
 have h := Any.bits_Mul64 Bgx a b (by omega) (by omega) w
 have e1 : ((a * b / 18446744073709551616 : Nat) : Int) = (a : Int) * b / 18446744073709551616 := by simp
 have e2 : ((a * b % 18446744073709551616 : Nat) : Int) = (a : Int) * b % 18446744073709551616 := by simp
 rw [e1, e2] at h
 exact h.mono fun _ _ ⟨a, b⟩ => ⟨a, b.symm⟩
structure Tz (w : World) : Prop where
 tab : TabAt 2 Lib.deBruijn64tab w
theorem Tz.below {w w' : World} (h : Tz w) (hb : Below w.heap.size w w') : Tz w' :=
 ⟨fun j hj => (hb.cell (World.block_lt_of_cell? (w := w) (a := ⟨2, j, none⟩) (h.tab j hj))).trans (h.tab j hj)⟩
theorem Bcd (x k idx : Nat) (w : World) (hx0 : ((x : Int) == 0) = false)
  (key : IntKind.u64.wrap (bits BinOp.and IntKind.u64 (x : Int) (IntKind.u64.wrap (-(x : Int))) * 285870213051353865) / 288230376151711744 = (idx : Int))
  (hi : idx < 64) (hk : k < 64) (hcell : w.cell? ⟨2, idx, none⟩ = some (.int .u8 k)) :
  Calls Tryz.prog 136 #[.int .u64 x] w fun e w' => e = .returned (.int .i64 k) ∧ w' = w := by
 go_enter Tryz.func136, Tryz.ntmps136
 go_wp2_with (simp only [key])
 go_ret
 exact ⟨rfl, rfl⟩
theorem tz64 (x : Int) (w : World) (h0 : 0 < x) (h1 : x < 18446744073709551616) (hT : Tz w) :
  Calls Tryz.prog 136 #[.int .u64 x] w fun e w' => e = .returned (.int .i64 (Lib.ctz 64 x.toNat)) ∧ w = w' := by
 obtain ⟨n, rfl⟩ := Int.eq_ofNat_of_zero_le (by omega : 0 ≤ x)
 obtain ⟨hlow, hk⟩ := Lib.lowest_bit 64 n (by omega) (by omega)
 obtain ⟨hi, htab⟩ := Lib.deBruijn64_at _ hk
 have hcell := hT.tab _ hi
 rw [htab] at hcell
 exact (Bcd n _ _ w (by simp; omega) (tz64_key n _ (by omega) (by omega) hlow) hi hk hcell).mono fun _ _ ⟨a, b⟩ => ⟨a, b.symm⟩
open Go.ChangeShapes Go.WideShapes Go.ChangeAt Go.RowKit
theorem own : ownKnob Tryz.prog.godebug = none := by kernel_rfl
theorem gTab : Tryz.prog.globalNamed "math/bits.deBruijn64tab" = some 2 := by kernel_rfl
theorem Bd4 : (Tryz.prog.globals[2]?).map (·.type) = some 128 := by kernel_rfl
theorem Bcv : Tryz.prog.cellsOf 128 = 64 := by kernel_rfl
theorem Bgl : Tryz.prog.cellsOf 5 = 1 := by kernel_rfl
def Ba3 : List (String × DataW Unit) := [("math/bits.deBruijn64tab", Rows.laid_math_bits_deBruijn64tab)]
theorem tabIs {W : World} (h : laidMetH Tryz.prog Ba3 W) : Lib.TabIs Tryz.prog W "math/bits.deBruijn64tab" .u8 (Lib.deBruijn64tab.map fun (x : Nat) => (x : Int)) :=
 Lib.tabIs_of_head (rest := []) gTab Bd4 Tryz.underlying128 Tryz.underlying5 Bgl Bcv h
theorem Uq {W : World} (h : laidMetH Tryz.prog Ba3 W) : Tz W :=
 ⟨fun j hj => by
  have := (tabIs h).cell gTab j (by simpa using hj)
  rw [this]
  simp only [List.getD_eq_getElem?_getD, List.getElem?_map]
  rw [List.getElem?_eq_getElem hj]; rfl⟩
theorem Jo {a : Int} (h : (Lit.int .i64 a).wf = true) : -9223372036854775808 ≤ a ∧ a ≤ 9223372036854775807 := by
 simp [Lit.wf, IntKind.min, IntKind.max, IntKind.bits, IntKind.signed] at h; omega
noncomputable def Fr (os : Os) : World :=
 { World.holding Tryz.prog os ⟨#[], #[], []⟩ with heap := (World.holding Tryz.prog os ⟨#[], #[], []⟩).heap.modify 2 fun
   | .cells _ t frozen => .cells (Lib.deBruijn64tab.map fun (x : Nat) => Value.int .u8 x).toArray t frozen
   | o => o }
set_option maxRecDepth 100000 in
theorem Mi {H : Type} {enc : TypeId × Value → H} {f : Func} {s : ChangeSpec} {W W' : World} {args : Array Value} {ds gs : List (DataW H)} {before : List MemPlace} {tb : TypeId}
  (hW : DataW.Whole enc Tryz.prog f.params.toList s.vars false W args.toList ds gs before) (hb : Below W.heap.size W W') (hr : f.resultTypes = #[tb]) (ht : Tryz.prog.underlying tb = some .bool)
  (hv : s.vars = []) (hs : (s.fn H (ds ++ gs)).results = [.lit (.bool true)])
  (hargs : ∀ sp : Nat → Bool, DataW.TrodAll enc Tryz.prog W' 0 sp true f.params.toList args.toList (s.fn H (ds ++ gs)).args before)
  (hvars : (s.fn H (ds ++ gs)).vars = []) :
  s.post enc Tryz.prog f false true false false W args (.bool true) W' := by
 have hrl : ((Value.bool true).resultList f.resultTypes.size) = [.bool true] := by rw [hr]; rfl
 have hvr : ∀ sp, DataW.TrodVars enc Tryz.prog W' sp s.vars (s.fn H (ds ++ gs)).vars [] := by intro sp; rw [hv, hvars]; exact rfl
 have hres : ∀ (b : Nat) (sp : Nat → Bool) (hd : Bool), DataW.TrodAll enc Tryz.prog W' b sp hd f.resultTypes.toList ((Value.bool true).resultList f.resultTypes.size) (s.fn H (ds ++ gs)).results [] := by
  intro b sp hd; rw [hrl, hr, hs]; exact trodAll_cons_mk (shut_bool ht _) trodAll_mk0
 have hlt : ∀ p ∈ before, p.block < W.heap.size := fun p hp => by simpa using hW.lt p hp
 refine ⟨ds, gs, before, [], before, [], hW, hres _ _ _, hargs _, hvr _, World.keptBut_mono (fun p hp => ⟨hp, by simpa using hp⟩) (hb.frame (· ∈ before)), fun _ => ?_⟩
 obtain ⟨_, _, _, _, _, hz, hn⟩ := hW
 refine ⟨fun j t r h1 h2 => ?_, _, _, ([] ++ before) ++ [], ⟨[] ++ before, [], trodAll_append (hargs _) (hres _ _ _), hvr _, rfl, ?_, ?_⟩, ?_⟩
 ·rw [hrl] at h2
  rw [hr] at h1
  match j, h1, h2 with
  | 0, h1, h2 =>
   obtain rfl : tb = t := by simpa using h1
   obtain rfl : Value.bool true = r := by simpa using h2
   exact okWide_bool_mk ht _
  | j + 1, h1, h2 => simp at h1
 ·intro b off hp
  have hp' : MemPlace.cell b off ∈ before := by simpa using hp
  rw [hb.frozen (p := ⟨b, off, none⟩) (hlt _ hp')]
  exact hz b off hp'
 ·intro ha
  have := hn ha
  simpa using this
 ·intro p hp _
  simpa using hp
end Go.Proofs.YteffemhapnbaeaaGreatDoor
