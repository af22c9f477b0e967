/- Numbers as lists of digits of 16 bits, lowest first. Printed by wip/tools/dig.py out of Num.lean and Mem.lean. -/
import Derived.Test.YtbfnjjnnlbchgaaDoorMem
namespace Go.Proofs.YtbfnjjnnlbchgaaDoor.Dig
open Go.Proofs.YtbfnjjnnlbchgaaDoor (take_last)
open Go.Proofs.YtbfnjjnnlbchgaaDoor.Num (getD_set_other getD_set_same)
/-- 2 to the 16. -/
def B : Int := 65536
theorem B_eq : B = 65536 := rfl
theorem B_pos : 0 < B := by decide

/-- Every word is one. -/
def Wf (xs : List Int) : Prop := ∀ x ∈ xs, 0 ≤ x ∧ x < 65536

def val : List Int → Int
  | [] => 0
  | x :: xs => x + B * val xs

/-- The words of a number, none for 0. -/
def wd (n : Int) : List Int := if _h : n ≤ 0 then [] else (n % B) :: wd (n / B)
termination_by n.toNat
decreasing_by
  have h1 : n / B < n := by rw [B_eq]; omega
  omega

theorem wf_nil : Wf [] := by intro x h; cases h
theorem wf_cons {x : Int} {xs : List Int} : Wf (x :: xs) ↔ (0 ≤ x ∧ x < 65536) ∧ Wf xs := by
  simp [Wf]
theorem wf_append {xs ys : List Int} : Wf (xs ++ ys) ↔ Wf xs ∧ Wf ys := by
  simp only [Wf, List.mem_append]
  constructor
  · exact fun h => ⟨fun x hx => h x (.inl hx), fun x hx => h x (.inr hx)⟩
  · rintro ⟨h1, h2⟩ x (hx | hx)
    · exact h1 x hx
    · exact h2 x hx
theorem Wf.take {xs : List Int} (h : Wf xs) (n : Nat) : Wf (xs.take n) := fun x hx => h x (List.mem_of_mem_take hx)
theorem Wf.drop {xs : List Int} (h : Wf xs) (n : Nat) : Wf (xs.drop n) := fun x hx => h x (List.mem_of_mem_drop hx)
theorem Wf.getD {xs : List Int} (h : Wf xs) (i : Nat) : 0 ≤ xs.getD i 0 ∧ xs.getD i 0 < 65536 := by
  by_cases hi : i < xs.length
  · rw [List.getD_eq_getElem?_getD, List.getElem?_eq_getElem hi]
    exact h _ (List.getElem_mem hi)
  · rw [List.getD_eq_getElem?_getD, List.getElem?_eq_none (by omega)]
    decide
theorem Wf.set {xs : List Int} (h : Wf xs) (i : Nat) {x : Int} (h0 : 0 ≤ x) (h1 : x < 65536) : Wf (xs.set i x) := by
  intro y hy
  rcases List.mem_or_eq_of_mem_set hy with hy | rfl
  · exact h y hy
  · exact ⟨h0, h1⟩
theorem wf_replicate (n : Nat) : Wf (List.replicate n 0) := by
  intro x hx; rw [List.eq_of_mem_replicate hx]; decide

theorem val_nil : val [] = 0 := rfl
theorem val_cons (x : Int) (xs : List Int) : val (x :: xs) = x + B * val xs := rfl
theorem val_nonneg : ∀ {xs : List Int}, Wf xs → 0 ≤ val xs
  | [], _ => Int.le_refl _
  | x :: xs, h => by
    have := val_nonneg (wf_cons.1 h).2
    have := (wf_cons.1 h).1
    rw [val_cons, B_eq]; omega

theorem B_pow_pos (n : Nat) : 0 < B ^ n := Int.pow_pos B_pos

theorem B_pow_le {a b : Nat} (h : a ≤ b) : B ^ a ≤ B ^ b := by
  obtain ⟨d, rfl⟩ : ∃ d, b = a + d := ⟨b - a, by omega⟩
  rw [Int.pow_add]
  have h1 := B_pow_pos a
  have h2 := B_pow_pos d
  have h3 : B ^ a * 1 ≤ B ^ a * B ^ d := Int.mul_le_mul_of_nonneg_left (by omega) (by omega)
  omega

theorem val_append (xs ys : List Int) : val (xs ++ ys) = val xs + B ^ xs.length * val ys := by
  induction xs with
  | nil => simp [val_nil]
  | cons x xs ih => rw [List.cons_append, val_cons, val_cons, ih, List.length_cons, Int.pow_succ]; grind

theorem val_replicate (n : Nat) : val (List.replicate n 0) = 0 := by
  induction n with
  | zero => rfl
  | succ n ih => rw [List.replicate_succ, val_cons, ih]; rfl

theorem val_lt : ∀ {xs : List Int}, Wf xs → val xs < B ^ xs.length
  | [], _ => by decide
  | x :: xs, h => by
    have ih := val_lt (wf_cons.1 h).2
    have hx := (wf_cons.1 h).1
    have hp := B_pow_pos xs.length
    rw [val_cons, List.length_cons, Int.pow_succ]
    generalize B ^ xs.length = p at *
    rw [B_eq]; omega

theorem wd_zero {n : Int} (h : n ≤ 0) : wd n = [] := by rw [wd, dif_pos h]
theorem wd_pos {n : Int} (h : 0 < n) : wd n = (n % B) :: wd (n / B) := by rw [wd, dif_neg (by omega)]

theorem div_B_nonneg {n : Int} (h : 0 ≤ n) : 0 ≤ n / B := by rw [B_eq]; omega
theorem div_B_lt {n : Int} (h : 0 < n) : n / B < n := by rw [B_eq]; omega

theorem val_wd (n : Int) (h : 0 ≤ n) : val (wd n) = n := by
  by_cases h0 : n ≤ 0
  · rw [wd_zero h0, val_nil]; omega
  · rw [wd_pos (by omega), val_cons, val_wd (n / B) (div_B_nonneg h), B_eq]; omega
termination_by n.toNat
decreasing_by
  have := div_B_lt (n := n) (by omega); have := div_B_nonneg h; omega

theorem wf_wd (n : Int) (h : 0 ≤ n) : Wf (wd n) := by
  by_cases h0 : n ≤ 0
  · rw [wd_zero h0]; exact wf_nil
  · rw [wd_pos (by omega), wf_cons]
    exact ⟨by rw [B_eq]; omega, wf_wd (n / B) (div_B_nonneg h)⟩
termination_by n.toNat
decreasing_by
  have := div_B_lt (n := n) (by omega); have := div_B_nonneg h; omega

/-- No zero at the high end. -/
def Top (xs : List Int) : Prop := xs.getLast? ≠ some 0

theorem top_nil : Top [] := by simp [Top]
theorem val_pos {xs : List Int} (hw : Wf xs) (ht : Top xs) (hn : xs ≠ []) : 0 < val xs := by
  induction xs with
  | nil => exact absurd rfl hn
  | cons x xs ih =>
    have h := wf_cons.1 hw
    rw [val_cons]
    by_cases he : xs = []
    · subst he
      have : x ≠ 0 := by simpa [Top] using ht
      rw [val_nil]; omega
    · have ht' : Top xs := by
        unfold Top at *; rw [List.getLast?_cons] at ht
        cases hx : xs.getLast? with
        | none => simp
        | some y => rw [hx] at ht; simpa using ht
      have := ih h.2 ht' he
      rw [B_eq]; omega

theorem wd_val {xs : List Int} (hw : Wf xs) (ht : Top xs) : wd (val xs) = xs := by
  induction xs with
  | nil => rw [val_nil, wd_zero (Int.le_refl _)]
  | cons x xs ih =>
    have h := wf_cons.1 hw
    have hp := val_pos hw ht (by simp)
    have hn := val_nonneg h.2
    rw [wd_pos hp, val_cons]
    have e1 : (x + B * val xs) % B = x := by
      rw [Int.add_mul_emod_self_left]; exact Int.emod_eq_of_lt h.1.1 (by rw [B_eq]; exact h.1.2)
    have e2 : (x + B * val xs) / B = val xs := by
      rw [Int.add_mul_ediv_left _ _ (by decide)]
      have : x / B = 0 := Int.ediv_eq_zero_of_lt h.1.1 (by rw [B_eq]; exact h.1.2)
      omega
    rw [e1, e2]
    congr 1
    by_cases he : xs = []
    · subst he; rw [val_nil, wd_zero (Int.le_refl _)]
    · refine ih h.2 ?_
      unfold Top at *; rw [List.getLast?_cons] at ht
      cases hx : xs.getLast? with
      | none => simp
      | some y => rw [hx] at ht; simpa using ht

theorem wd_ne_nil {n : Int} (h : 0 < n) : wd n ≠ [] := by rw [wd_pos h]; simp
theorem wd_eq_nil {n : Int} : wd n = [] ↔ n ≤ 0 := by
  constructor
  · intro h; by_cases h0 : n ≤ 0
    · exact h0
    · exact absurd h (wd_ne_nil (by omega))
  · exact wd_zero

theorem top_wd (n : Int) (h : 0 ≤ n) : Top (wd n) := by
  by_cases h0 : n ≤ 0
  · rw [wd_zero h0]; exact top_nil
  · have ih := top_wd (n / B) (div_B_nonneg h)
    rw [wd_pos (by omega)]
    unfold Top at *
    rw [List.getLast?_cons]
    by_cases hz : n / B ≤ 0
    · rw [wd_zero hz]
      have : n % B = n := by rw [B_eq] at *; omega
      simp [this]; omega
    · cases hx : (wd (n / B)).getLast? with
      | none => exact absurd (List.getLast?_eq_none_iff.1 hx) (wd_ne_nil (by omega))
      | some y => rw [hx] at ih; simpa using ih
termination_by n.toNat
decreasing_by
  have := div_B_lt (n := n) (by omega); have := div_B_nonneg h; omega

theorem wd_inj {m n : Int} (hm : 0 ≤ m) (hn : 0 ≤ n) (h : wd m = wd n) : m = n := by
  rw [← val_wd m hm, ← val_wd n hn, h]

/-- A trailing zero word tells nothing. -/
theorem val_snoc_zero (xs : List Int) : val (xs ++ [0]) = val xs := by
  rw [val_append]; simp [val]

theorem wd_length_le {n : Int} (h : 0 ≤ n) {k : Nat} (hk : n < B ^ k) : (wd n).length ≤ k := by
  induction k generalizing n with
  | zero => rw [wd_zero (by simpa using Int.lt_add_one_iff.1 (by simpa using hk))]; simp
  | succ k ih =>
    by_cases h0 : n ≤ 0
    · rw [wd_zero h0]; simp
    · rw [wd_pos (by omega), List.length_cons]
      have : n / B < B ^ k := by
        rw [Int.pow_succ] at hk
        exact Int.ediv_lt_of_lt_mul B_pos hk
      have := ih (div_B_nonneg h) this
      omega

theorem lt_pow_of_wd_length {n : Int} (h : 0 ≤ n) {k : Nat} (hk : (wd n).length ≤ k) : n < B ^ k := by
  have h1 := val_lt (wf_wd n h)
  rw [val_wd n h] at h1
  exact Int.lt_of_lt_of_le h1 (B_pow_le hk)

theorem pow_le_of_wd_length {n : Int} {k : Nat} (hk : k < (wd n).length) : B ^ k ≤ n := by
  by_cases h : 0 ≤ n
  · by_cases h2 : n < B ^ k
    · have := wd_length_le h h2; omega
    · omega
  · rw [wd_zero (by omega)] at hk; simp at hk

/-- The i-th word. -/
theorem val_take_drop (xs : List Int) (k : Nat) (hk : k ≤ xs.length) : val xs = val (xs.take k) + B ^ k * val (xs.drop k) := by
  have h := val_append (xs.take k) (xs.drop k)
  rw [List.take_append_drop, List.length_take, Nat.min_eq_left hk] at h
  exact h

theorem val_drop {xs : List Int} (hw : Wf xs) (k : Nat) : val (xs.drop k) = val xs / B ^ k := by
  by_cases hk : k ≤ xs.length
  · have h1 := val_take_drop xs k hk
    have h2 := val_lt (hw.take k)
    have h3 := val_nonneg (hw.take k)
    rw [List.length_take, Nat.min_eq_left hk] at h2
    rw [h1, Int.add_mul_ediv_left _ _ (by have := B_pow_pos k; omega), Int.ediv_eq_zero_of_lt h3 h2]; omega
  · rw [List.drop_eq_nil_of_le (by omega), val_nil]
    refine (Int.ediv_eq_zero_of_lt (val_nonneg hw) (Int.lt_of_lt_of_le (val_lt hw) (B_pow_le (by omega)))).symm

theorem val_take {xs : List Int} (hw : Wf xs) (k : Nat) : val (xs.take k) = val xs % B ^ k := by
  by_cases hk : k ≤ xs.length
  · have h1 := val_take_drop xs k hk
    have h2 := val_lt (hw.take k)
    have h3 := val_nonneg (hw.take k)
    rw [List.length_take, Nat.min_eq_left hk] at h2
    rw [h1, Int.add_mul_emod_self_left, Int.emod_eq_of_lt h3 h2]
  · rw [List.take_of_length_le (by omega)]
    exact (Int.emod_eq_of_lt (val_nonneg hw) (Int.lt_of_lt_of_le (val_lt hw) (B_pow_le (by omega)))).symm

theorem val_set (xs : List Int) (i : Nat) (x : Int) (hi : i < xs.length) : val (xs.set i x) = val xs + B ^ i * (x - xs.getD i 0) := by
  induction xs generalizing i with
  | nil => simp at hi
  | cons y ys ih =>
    cases i with
    | zero => simp [val_cons]; omega
    | succ i =>
      rw [List.set_cons_succ, val_cons, val_cons, ih i (by simpa using hi), Int.pow_succ]
      simp only [List.getD_cons_succ]; grind

/-- Two lists of one length, one value: the same. -/
theorem val_inj : ∀ {xs ys : List Int}, Wf xs → Wf ys → xs.length = ys.length → val xs = val ys → xs = ys
  | [], [], _, _, _, _ => rfl
  | [], _ :: _, _, _, h, _ => by simp at h
  | _ :: _, [], _, _, h, _ => by simp at h
  | x :: xs, y :: ys, h1, h2, hl, hv => by
    have a1 := wf_cons.1 h1
    have a2 := wf_cons.1 h2
    rw [val_cons, val_cons, B_eq] at hv
    have e : x = y := by omega
    have e2 : val xs = val ys := by omega
    rw [e, val_inj a1.2 a2.2 (by simpa using hl) e2]

/-- The words of a value, up to a length: what lies behind is zero. -/
theorem eq_wd_append {xs : List Int} (hw : Wf xs) : xs = wd (val xs) ++ List.replicate (xs.length - (wd (val xs)).length) 0 := by
  have hl := wd_length_le (val_nonneg hw) (val_lt hw)
  refine val_inj hw ?_ (by simp; omega) ?_
  · rw [wf_append]; exact ⟨wf_wd _ (val_nonneg hw), wf_replicate _⟩
  · rw [val_append, val_replicate, val_wd _ (val_nonneg hw)]; omega

/-! ### which one is greater -/
theorem lt_of_len {x y : Int} (hx : 0 ≤ x) (hl : (wd x).length < (wd y).length) : x < y :=
  Int.lt_of_lt_of_le (lt_pow_of_wd_length hx (Nat.le_refl _)) (pow_le_of_wd_length hl)
theorem val_at (xs : List Int) (i : Nat) (hi : i < xs.length) : val xs = val (xs.take i) + B ^ i * (xs[i]?.getD 0 + B * val (xs.drop (i + 1))) := by
  rw [val_take_drop xs i (by omega), List.drop_eq_getElem_cons hi, val_cons, List.getElem?_eq_getElem hi]; rfl
theorem lt_of_word {X Y : List Int} (hx : Wf X) (hl : X.length = Y.length) (hy : Wf Y) {i : Nat} (hi : i < X.length) (hd : X.drop (i + 1) = Y.drop (i + 1))
    (h : X[i]?.getD 0 < Y[i]?.getD 0) : val X < val Y := by
  rw [val_at X i hi, val_at Y i (by omega), hd]
  have h1 := val_lt (hx.take i)
  have h2 := val_nonneg (hy.take i)
  rw [List.length_take, Nat.min_eq_left (by omega)] at h1
  have hp := B_pow_pos i
  generalize val (Y.drop (i + 1)) = z at *
  generalize X[i]?.getD 0 = a at *
  generalize Y[i]?.getD 0 = b at *
  have : B ^ i * (a + B * z) + B ^ i ≤ B ^ i * (b + B * z) := by
    have h3 : B ^ i * (a + B * z + 1) ≤ B ^ i * (b + B * z) := Int.mul_le_mul_of_nonneg_left (by omega) (by omega)
    rw [Int.mul_add, Int.mul_one] at h3; exact h3
  omega
theorem drop_same {X Y : List Int} (hl : X.length = Y.length) {i : Nat} (hi : i < X.length) (hd : X.drop (i + 1) = Y.drop (i + 1)) (h : X[i]?.getD 0 = Y[i]?.getD 0) : X.drop i = Y.drop i := by
  rw [List.drop_eq_getElem_cons hi, List.drop_eq_getElem_cons (by omega : i < Y.length), hd]
  rw [List.getElem?_eq_getElem hi, List.getElem?_eq_getElem (by omega : i < Y.length)] at h
  simp at h; rw [h]

theorem trim_go {xs : List Int} {k : Nat} (h0 : 0 < k) (hk : k ≤ xs.length) (hz : xs[k - 1]?.getD 0 = 0) (hv : val (xs.take k) = val xs) : val (xs.take (k - 1)) = val xs := by
  rw [take_last h0 hk, hz, val_snoc_zero] at hv
  exact hv
theorem trim_end {xs : List Int} {k : Nat} (hw : Wf xs) (h0 : 0 < k) (hk : k ≤ xs.length) (hz : xs[k - 1]?.getD 0 ≠ 0) (hv : val (xs.take k) = val xs) : wd (val xs) = xs.take k := by
  rw [← hv]
  refine wd_val (hw.take k) ?_
  unfold Top
  rw [take_last h0 hk]
  simpa using hz
theorem wd_take {xs : List Int} (hw : Wf xs) : xs.take (wd (val xs)).length = wd (val xs) := by
  have h := eq_wd_append hw
  conv => lhs; rw [h]
  rw [List.take_left']
  rw [← h]
theorem wd_len {xs : List Int} (hw : Wf xs) : (wd (val xs)).length ≤ xs.length := wd_length_le (val_nonneg hw) (val_lt hw)
/-- What stands while a word's product is added: i words are done, k words of this one. -/
structure PlainInv (Z xs ys : List Int) (i k : Nat) (x c : Int) : Prop where
  v : val Z + c * B ^ (i + k) = val xs * val (ys.take i) + x * B ^ i * val (xs.take k)
  z : ∀ j, i + xs.length ≤ j → Z.getD j 0 = 0
theorem plain_step {Z xs ys : List Int} {i k : Nat} {x y c s s' c' : Int} (h : PlainInv Z xs ys i k x c) (hk : k < xs.length) (hl : i + k < Z.length) (hs : Z.getD (i + k) 0 = s) (hy : xs.getD k 0 = y) (e : x * y + c + s = s' + c' * 65536) :
    PlainInv (Z.set (i + k) s') xs ys i (k + 1) x c' := by
  refine ⟨?_, fun j hj => by rw [getD_set_other _ _ _ _ (by omega)]; exact h.z j hj⟩
  have hv := h.v
  have e1 : val (xs.take (k + 1)) = val (xs.take k) + B ^ k * y := by
    rw [take_last (xs := xs) (k := k + 1) (by omega) (by omega), Nat.add_sub_cancel, val_append, List.length_take, Nat.min_eq_left (by omega), ← List.getD_eq_getElem?_getD, hy]
    simp [val]
  rw [val_set _ _ _ hl, hs, e1, ← Nat.add_assoc, Int.pow_succ, Int.pow_add]
  rw [Int.pow_add] at hv
  generalize B ^ i = p at *
  generalize B ^ k = q at *
  have e2 : c' * (p * q * B) = (x * y + c + s - s') * (p * q) := by
    have : x * y + c + s - s' = c' * B := by rw [B_eq]; omega
    rw [this]; grind
  rw [e2]; grind
theorem plain_last {Z xs ys : List Int} {i : Nat} {x c : Int} (h : PlainInv Z xs ys i xs.length x c) (hi : i < ys.length) (hl : i + xs.length < Z.length) (hx : ys.getD i 0 = x) :
    PlainInv (Z.set (i + xs.length) c) xs ys (i + 1) 0 0 0 := by
  have hv := h.v
  refine ⟨?_, fun j hj => by rw [getD_set_other _ _ _ _ (by omega)]; exact h.z j (by omega)⟩
  have e1 : val (ys.take (i + 1)) = val (ys.take i) + B ^ i * x := by
    rw [take_last (xs := ys) (k := i + 1) (by omega) (by omega), Nat.add_sub_cancel, val_append, List.length_take, Nat.min_eq_left (by omega), ← List.getD_eq_getElem?_getD, hx]
    simp [val]
  rw [List.take_length] at hv
  rw [val_set _ _ _ hl, h.z _ (Nat.le_refl _), e1, List.take_zero, val_nil]
  generalize B ^ i = p at *
  generalize B ^ (i + xs.length) = q at *
  grind
theorem plain_begin {Z xs ys : List Int} {i : Nat} (x : Int) (h : PlainInv Z xs ys i 0 0 0) : PlainInv Z xs ys i 0 x 0 := by
  have hv := h.v
  refine ⟨?_, h.z⟩
  rw [List.take_zero, val_nil, Int.zero_mul, Int.mul_zero] at *
  exact hv
theorem plain_start (xs ys : List Int) (n : Nat) : PlainInv (List.replicate n 0) xs ys 0 0 0 0 := by
  refine ⟨by rw [val_replicate]; simp [val], fun j _ => ?_⟩
  rw [List.getD_eq_getElem?_getD, List.getElem?_replicate]; split <;> rfl
theorem plain_end {Z xs ys : List Int} {i : Nat} (h : PlainInv Z xs ys i 0 0 0) (hi : ys.length ≤ i) : val Z = val xs * val ys := by
  have hv := h.v
  rw [List.take_of_length_le hi, Int.zero_mul, Int.zero_mul, Int.zero_mul] at hv
  omega
end Go.Proofs.YtbfnjjnnlbchgaaDoor.Dig
