/- Walks and laws that the claim's row needs. No conditions. -/
import Derived.Test.YteffemhapnbaeaaGreatDoorQaa
import Derived.Test.YteffemhapnbaeaaGreatDoorQac
import Derived.BigQuiet
import Derived.Test.YteffemhapnbaeaaGreatDoorQab
set_option maxHeartbeats 16000000
set_option linter.unusedSimpArgs false
set_option linter.unusedVariables false
namespace Go.Proofs.YteffemhapnbaeaaGreatDoor.Dig
open Go.Proofs.YteffemhapnbaeaaGreatDoor (Dd)
open Go.Proofs.YteffemhapnbaeaaGreatDoor.Num (getD_set_other getD_set_same)
def B : Int := 65536
theorem B_eq : B = 65536 := rfl
theorem B_pos : 0 < B := by decide
def Wf (xs : List Int) : Prop := ∀ x ∈ xs, 0 ≤ x ∧ x < 65536
def val : List Int → Int
 | [] => 0
 | x :: xs => x + B * val xs
def wd (n : Int) : List Int := if _h : n ≤ 0 then [] else (n % B) :: wd (n / B)
termination_by n.toNat
decreasing_by
 have h1 : n / B < n := by rw [B_eq]; omega
 omega
theorem wf_nil : Wf [] := by intro x h; cases h
theorem wf_cons {x : Int} {xs : List Int} : Wf (x :: xs) ↔ (0 ≤ x ∧ x < 65536) ∧ Wf xs := by
 simp [Wf]
theorem wf_append {xs ys : List Int} : Wf (xs ++ ys) ↔ Wf xs ∧ Wf ys := by
 simp only [Wf, List.mem_append]
 constructor
 ·exact fun h => ⟨fun x hx => h x (.inl hx), fun x hx => h x (.inr hx)⟩
 ·rintro ⟨h1, h2⟩ x (hx | hx)
  ·exact h1 x hx
  ·exact h2 x hx
theorem Wf.take {xs : List Int} (h : Wf xs) (n : Nat) : Wf (xs.take n) := fun x hx => h x (List.mem_of_mem_take hx)
theorem Wf.drop {xs : List Int} (h : Wf xs) (n : Nat) : Wf (xs.drop n) := fun x hx => h x (List.mem_of_mem_drop hx)
theorem Wf.getD {xs : List Int} (h : Wf xs) (i : Nat) : 0 ≤ xs.getD i 0 ∧ xs.getD i 0 < 65536 := by
 by_cases hi : i < xs.length
 ·rw [List.getD_eq_getElem?_getD, List.getElem?_eq_getElem hi]
  exact h _ (List.getElem_mem hi)
 ·rw [List.getD_eq_getElem?_getD, List.getElem?_eq_none (by omega)]
  decide
theorem Wf.set {xs : List Int} (h : Wf xs) (i : Nat) {x : Int} (h0 : 0 ≤ x) (h1 : x < 65536) : Wf (xs.set i x) := by
 intro y hy
 rcases List.mem_or_eq_of_mem_set hy with hy | rfl
 ·exact h y hy
 ·exact ⟨h0, h1⟩
theorem wf_replicate (n : Nat) : Wf (List.replicate n 0) := by
 intro x hx; rw [List.eq_of_mem_replicate hx]; decide
theorem val_nil : val [] = 0 := rfl
theorem val_cons (x : Int) (xs : List Int) : val (x :: xs) = x + B * val xs := rfl
theorem val_nonneg : ∀ {xs : List Int}, Wf xs → 0 ≤ val xs
 | [], _ => Int.le_refl _
 | x :: xs, h => by
  have := val_nonneg (wf_cons.1 h).2
  have := (wf_cons.1 h).1
  rw [val_cons, B_eq]; omega
theorem B_pow_pos (n : Nat) : 0 < B ^ n := Int.pow_pos B_pos
theorem B_pow_le {a b : Nat} (h : a ≤ b) : B ^ a ≤ B ^ b := by
 obtain ⟨d, rfl⟩ : ∃ d, b = a + d := ⟨b - a, by omega⟩
 rw [Int.pow_add]
 have h1 := B_pow_pos a
 have h2 := B_pow_pos d
 have h3 : B ^ a * 1 ≤ B ^ a * B ^ d := Int.mul_le_mul_of_nonneg_left (by omega) (by omega)
 omega
theorem val_append (xs ys : List Int) : val (xs ++ ys) = val xs + B ^ xs.length * val ys := by
 induction xs with
 | nil => simp [val_nil]
 | cons x xs ih => rw [List.cons_append, val_cons, val_cons, ih, List.length_cons, Int.pow_succ]; grind
theorem val_replicate (n : Nat) : val (List.replicate n 0) = 0 := by
 induction n with
 | zero => rfl
 | succ n ih => rw [List.replicate_succ, val_cons, ih]; rfl
theorem val_lt : ∀ {xs : List Int}, Wf xs → val xs < B ^ xs.length
 | [], _ => by decide
 | x :: xs, h => by
  have ih := val_lt (wf_cons.1 h).2
  have hx := (wf_cons.1 h).1
  have hp := B_pow_pos xs.length
  rw [val_cons, List.length_cons, Int.pow_succ]
  generalize B ^ xs.length = p at *
  rw [B_eq]; omega
theorem wd_zero {n : Int} (h : n ≤ 0) : wd n = [] := by rw [wd, dif_pos h]
theorem wd_pos {n : Int} (h : 0 < n) : wd n = (n % B) :: wd (n / B) := by rw [wd, dif_neg (by omega)]
theorem div_B_nonneg {n : Int} (h : 0 ≤ n) : 0 ≤ n / B := by rw [B_eq]; omega
theorem div_B_lt {n : Int} (h : 0 < n) : n / B < n := by rw [B_eq]; omega
theorem val_wd (n : Int) (h : 0 ≤ n) : val (wd n) = n := by
 by_cases h0 : n ≤ 0
 ·rw [wd_zero h0, val_nil]; omega
 ·rw [wd_pos (by omega), val_cons, val_wd (n / B) (div_B_nonneg h), B_eq]; omega
termination_by n.toNat
decreasing_by
 have := div_B_lt (n := n) (by omega); have := div_B_nonneg h; omega
theorem wf_wd (n : Int) (h : 0 ≤ n) : Wf (wd n) := by
 by_cases h0 : n ≤ 0
 ·rw [wd_zero h0]; exact wf_nil
 ·rw [wd_pos (by omega), wf_cons]
  exact ⟨by rw [B_eq]; omega, wf_wd (n / B) (div_B_nonneg h)⟩
termination_by n.toNat
decreasing_by
 have := div_B_lt (n := n) (by omega); have := div_B_nonneg h; omega
def Top (xs : List Int) : Prop := xs.getLast? ≠ some 0
theorem val_pos {xs : List Int} (hw : Wf xs) (ht : Top xs) (hn : xs ≠ []) : 0 < val xs := by
 induction xs with
 | nil => exact absurd rfl hn
 | cons x xs ih =>
  have h := wf_cons.1 hw
  rw [val_cons]
  by_cases he : xs = []
  ·subst he
   have : x ≠ 0 := by simpa [Top] using ht
   rw [val_nil]; omega
  ·have ht' : Top xs := by
    unfold Top at *; rw [List.getLast?_cons] at ht
    cases hx : xs.getLast? with
    | none => simp
    | some y => rw [hx] at ht; simpa using ht
   have := ih h.2 ht' he
   rw [B_eq]; omega
theorem wd_val {xs : List Int} (hw : Wf xs) (ht : Top xs) : wd (val xs) = xs := by
 induction xs with
 | nil => rw [val_nil, wd_zero (Int.le_refl _)]
 | cons x xs ih =>
  have h := wf_cons.1 hw
  have hp := val_pos hw ht (by simp)
  have hn := val_nonneg h.2
  rw [wd_pos hp, val_cons]
  have e1 : (x + B * val xs) % B = x := by
   rw [Int.add_mul_emod_self_left]; exact Int.emod_eq_of_lt h.1.1 (by rw [B_eq]; exact h.1.2)
  have e2 : (x + B * val xs) / B = val xs := by
   rw [Int.add_mul_ediv_left _ _ (by decide)]
   have : x / B = 0 := Int.ediv_eq_zero_of_lt h.1.1 (by rw [B_eq]; exact h.1.2)
   omega
  rw [e1, e2]
  congr 1
  by_cases he : xs = []
  ·subst he; rw [val_nil, wd_zero (Int.le_refl _)]
  ·refine ih h.2 ?_
   unfold Top at *; rw [List.getLast?_cons] at ht
   cases hx : xs.getLast? with
   | none => simp
   | some y => rw [hx] at ht; simpa using ht
theorem wd_ne_nil {n : Int} (h : 0 < n) : wd n ≠ [] := by rw [wd_pos h]; simp
theorem val_snoc_zero (xs : List Int) : val (xs ++ [0]) = val xs := by
 rw [val_append]; simp [val]
theorem wd_length_le {n : Int} (h : 0 ≤ n) {k : Nat} (hk : n < B ^ k) : (wd n).length ≤ k := by
 induction k generalizing n with
 | zero => rw [wd_zero (by simpa using Int.lt_add_one_iff.1 (by simpa using hk))]; simp
 | succ k ih =>
  by_cases h0 : n ≤ 0
  ·rw [wd_zero h0]; simp
  ·rw [wd_pos (by omega), List.length_cons]
   have : n / B < B ^ k := by
    rw [Int.pow_succ] at hk
    exact Int.ediv_lt_of_lt_mul B_pos hk
   have := ih (div_B_nonneg h) this
   omega
theorem lt_pow_of_wd_length {n : Int} (h : 0 ≤ n) {k : Nat} (hk : (wd n).length ≤ k) : n < B ^ k := by
 have h1 := val_lt (wf_wd n h)
 rw [val_wd n h] at h1
 exact Int.lt_of_lt_of_le h1 (B_pow_le hk)
theorem pow_le_of_wd_length {n : Int} {k : Nat} (hk : k < (wd n).length) : B ^ k ≤ n := by
 by_cases h : 0 ≤ n
 ·by_cases h2 : n < B ^ k
  ·have := wd_length_le h h2; omega
  ·omega
 ·rw [wd_zero (by omega)] at hk; simp at hk
theorem val_take_drop (xs : List Int) (k : Nat) (hk : k ≤ xs.length) : val xs = val (xs.take k) + B ^ k * val (xs.drop k) := by
 have h := val_append (xs.take k) (xs.drop k)
 rw [List.take_append_drop, List.length_take, Nat.min_eq_left hk] at h
 exact h
theorem val_drop {xs : List Int} (hw : Wf xs) (k : Nat) : val (xs.drop k) = val xs / B ^ k := by
 by_cases hk : k ≤ xs.length
 ·have h1 := val_take_drop xs k hk
  have h2 := val_lt (hw.take k)
  have h3 := val_nonneg (hw.take k)
  rw [List.length_take, Nat.min_eq_left hk] at h2
  rw [h1, Int.add_mul_ediv_left _ _ (by have := B_pow_pos k; omega), Int.ediv_eq_zero_of_lt h3 h2]; omega
 ·rw [List.drop_eq_nil_of_le (by omega), val_nil]
  refine (Int.ediv_eq_zero_of_lt (val_nonneg hw) (Int.lt_of_lt_of_le (val_lt hw) (B_pow_le (by omega)))).symm
theorem val_set (xs : List Int) (i : Nat) (x : Int) (hi : i < xs.length) : val (xs.set i x) = val xs + B ^ i * (x - xs.getD i 0) := by
 induction xs generalizing i with
 | nil => simp at hi
 | cons y ys ih =>
  cases i with
  | zero => simp [val_cons]; omega
  | succ i =>
   rw [List.set_cons_succ, val_cons, val_cons, ih i (by simpa using hi), Int.pow_succ]
   simp only [List.getD_cons_succ]; grind
theorem val_inj : ∀ {xs ys : List Int}, Wf xs → Wf ys → xs.length = ys.length → val xs = val ys → xs = ys
 | [], [], _, _, _, _ => rfl
 | [], _ :: _, _, _, h, _ => by simp at h
 | _ :: _, [], _, _, h, _ => by simp at h
 | x :: xs, y :: ys, h1, h2, hl, hv => by
  have a1 := wf_cons.1 h1
  have a2 := wf_cons.1 h2
  rw [val_cons, val_cons, B_eq] at hv
  have e : x = y := by omega
  have e2 : val xs = val ys := by omega
  rw [e, val_inj a1.2 a2.2 (by simpa using hl) e2]
theorem eq_wd_append {xs : List Int} (hw : Wf xs) : xs = wd (val xs) ++ List.replicate (xs.length - (wd (val xs)).length) 0 := by
 have hl := wd_length_le (val_nonneg hw) (val_lt hw)
 refine val_inj hw ?_ (by simp; omega) ?_
 ·rw [wf_append]; exact ⟨wf_wd _ (val_nonneg hw), wf_replicate _⟩
 ·rw [val_append, val_replicate, val_wd _ (val_nonneg hw)]; omega
theorem lt_of_len {x y : Int} (hx : 0 ≤ x) (hl : (wd x).length < (wd y).length) : x < y :=
 Int.lt_of_lt_of_le (lt_pow_of_wd_length hx (Nat.le_refl _)) (pow_le_of_wd_length hl)
theorem val_at (xs : List Int) (i : Nat) (hi : i < xs.length) : val xs = val (xs.take i) + B ^ i * (xs[i]?.getD 0 + B * val (xs.drop (i + 1))) := by
 rw [val_take_drop xs i (by omega), List.drop_eq_getElem_cons hi, val_cons, List.getElem?_eq_getElem hi]; rfl
theorem lt_of_word {X Y : List Int} (hx : Wf X) (hl : X.length = Y.length) (hy : Wf Y) {i : Nat} (hi : i < X.length) (hd : X.drop (i + 1) = Y.drop (i + 1))
  (h : X[i]?.getD 0 < Y[i]?.getD 0) : val X < val Y := by
 rw [val_at X i hi, val_at Y i (by omega), hd]
 have h1 := val_lt (hx.take i)
 have h2 := val_nonneg (hy.take i)
 rw [List.length_take, Nat.min_eq_left (by omega)] at h1
 have hp := B_pow_pos i
 generalize val (Y.drop (i + 1)) = z at *
 generalize X[i]?.getD 0 = a at *
 generalize Y[i]?.getD 0 = b at *
 have : B ^ i * (a + B * z) + B ^ i ≤ B ^ i * (b + B * z) := by
  have h3 : B ^ i * (a + B * z + 1) ≤ B ^ i * (b + B * z) := Int.mul_le_mul_of_nonneg_left (by omega) (by omega)
  rw [Int.mul_add, Int.mul_one] at h3; exact h3
 omega
theorem drop_same {X Y : List Int} (hl : X.length = Y.length) {i : Nat} (hi : i < X.length) (hd : X.drop (i + 1) = Y.drop (i + 1)) (h : X[i]?.getD 0 = Y[i]?.getD 0) : X.drop i = Y.drop i := by
 rw [List.drop_eq_getElem_cons hi, List.drop_eq_getElem_cons (by omega : i < Y.length), hd]
 rw [List.getElem?_eq_getElem hi, List.getElem?_eq_getElem (by omega : i < Y.length)] at h
 simp at h; rw [h]
theorem trim_go {xs : List Int} {k : Nat} (h0 : 0 < k) (hk : k ≤ xs.length) (hz : xs[k - 1]?.getD 0 = 0) (hv : val (xs.take k) = val xs) : val (xs.take (k - 1)) = val xs := by
 rw [Dd h0 hk, hz, val_snoc_zero] at hv
 exact hv
theorem trim_end {xs : List Int} {k : Nat} (hw : Wf xs) (h0 : 0 < k) (hk : k ≤ xs.length) (hz : xs[k - 1]?.getD 0 ≠ 0) (hv : val (xs.take k) = val xs) : wd (val xs) = xs.take k := by
 rw [← hv]
 refine wd_val (hw.take k) ?_
 unfold Top
 rw [Dd h0 hk]
 simpa using hz
theorem wd_take {xs : List Int} (hw : Wf xs) : xs.take (wd (val xs)).length = wd (val xs) := by
 have h := eq_wd_append hw
 conv => lhs; rw [h]
 rw [List.take_left']
 rw [← h]
theorem wd_len {xs : List Int} (hw : Wf xs) : (wd (val xs)).length ≤ xs.length := wd_length_le (val_nonneg hw) (val_lt hw)
structure PlainInv (Z xs ys : List Int) (i k : Nat) (x c : Int) : Prop where
 v : val Z + c * B ^ (i + k) = val xs * val (ys.take i) + x * B ^ i * val (xs.take k)
 z : ∀ j, i + xs.length ≤ j → Z.getD j 0 = 0
theorem plain_step {Z xs ys : List Int} {i k : Nat} {x y c s s' c' : Int} (h : PlainInv Z xs ys i k x c) (hk : k < xs.length) (hl : i + k < Z.length) (hs : Z.getD (i + k) 0 = s) (hy : xs.getD k 0 = y) (e : x * y + c + s = s' + c' * 65536) :
  PlainInv (Z.set (i + k) s') xs ys i (k + 1) x c' := by
 refine ⟨?_, fun j hj => by rw [getD_set_other _ _ _ _ (by omega)]; exact h.z j hj⟩
 have hv := h.v
 have e1 : val (xs.take (k + 1)) = val (xs.take k) + B ^ k * y := by
  rw [Dd (xs := xs) (k := k + 1) (by omega) (by omega), Nat.add_sub_cancel, val_append, List.length_take, Nat.min_eq_left (by omega), ← List.getD_eq_getElem?_getD, hy]
  simp [val]
 rw [val_set _ _ _ hl, hs, e1, ← Nat.add_assoc, Int.pow_succ, Int.pow_add]
 rw [Int.pow_add] at hv
 generalize B ^ i = p at *
 generalize B ^ k = q at *
 have e2 : c' * (p * q * B) = (x * y + c + s - s') * (p * q) := by
  have : x * y + c + s - s' = c' * B := by rw [B_eq]; omega
  rw [this]; grind
 rw [e2]; grind
theorem plain_last {Z xs ys : List Int} {i : Nat} {x c : Int} (h : PlainInv Z xs ys i xs.length x c) (hi : i < ys.length) (hl : i + xs.length < Z.length) (hx : ys.getD i 0 = x) :
  PlainInv (Z.set (i + xs.length) c) xs ys (i + 1) 0 0 0 := by
 have hv := h.v
 refine ⟨?_, fun j hj => by rw [getD_set_other _ _ _ _ (by omega)]; exact h.z j (by omega)⟩
 have e1 : val (ys.take (i + 1)) = val (ys.take i) + B ^ i * x := by
  rw [Dd (xs := ys) (k := i + 1) (by omega) (by omega), Nat.add_sub_cancel, val_append, List.length_take, Nat.min_eq_left (by omega), ← List.getD_eq_getElem?_getD, hx]
  simp [val]
 rw [List.take_length] at hv
 rw [val_set _ _ _ hl, h.z _ (Nat.le_refl _), e1, List.take_zero, val_nil]
 generalize B ^ i = p at *
 generalize B ^ (i + xs.length) = q at *
 grind
theorem plain_begin {Z xs ys : List Int} {i : Nat} (x : Int) (h : PlainInv Z xs ys i 0 0 0) : PlainInv Z xs ys i 0 x 0 := by
 have hv := h.v
 refine ⟨?_, h.z⟩
 rw [List.take_zero, val_nil, Int.zero_mul, Int.mul_zero] at *
 exact hv
theorem plain_start (xs ys : List Int) (n : Nat) : PlainInv (List.replicate n 0) xs ys 0 0 0 0 := by
 refine ⟨by rw [val_replicate]; simp [val], fun j _ => ?_⟩
 rw [List.getD_eq_getElem?_getD, List.getElem?_replicate]; split <;> rfl
theorem plain_end {Z xs ys : List Int} {i : Nat} (h : PlainInv Z xs ys i 0 0 0) (hi : ys.length ≤ i) : val Z = val xs * val ys := by
 have hv := h.v
 rw [List.take_of_length_le hi, Int.zero_mul, Int.zero_mul, Int.zero_mul] at hv
 omega
end Go.Proofs.YteffemhapnbaeaaGreatDoor.Dig
namespace Go.Proofs.YteffemhapnbaeaaGreatDoor
open Go.RowKit Num
set_option maxRecDepth 100000
theorem cut (A : Option Addr) (n c : Nat) (xs : List Int) (w : World) (h : Arr w A n c xs) (hD : Dig.Wf xs) :
  Calls Tryz.prog 137 #[.slice A n c] w fun e w' => e = .returned (.slice A (Dig.wd (Dig.val xs)).length c) ∧ w = w' := by
 have hl := h.len
 have hcap := h.cap
 have hbig := h.big
 go_enter Tryz.func137, Tryz.ntmps137
 go_wp2
 go_loop [0] (fun v => ∃ k : Nat, k ≤ n ∧ v = .slice A k c ∧ Dig.val (xs.take k) = Dig.val xs) (fun v => match v with | .slice _ k _ => k | _ => 0)
 case atStart => exact ⟨n, Nat.le_refl _, rfl, by rw [← hl, List.take_length]⟩
 case round =>
  obtain ⟨k, hk, rfl, hv⟩ := hrel
  have HV := Be hv
  have HL := Be hl
  clear hv hl
  by_cases h0 : 0 < k
  ·obtain ⟨b, o, rfl, hlt, hc⟩ := h.mem (by omega)
   have hcell := hc (k - 1) (by omega)
   clear hc
   go_wp2
   ·have hz : (xs[k - 1]?.getD 0 == 0) = true := by assumption
    have hz' : xs[k - 1]?.getD 0 = 0 := by simpa using hz
    exact ⟨⟨k - 1, by omega, rfl, Dig.trim_go h0 (by rw [HL.out]; exact hk) hz' HV.out⟩, by simp; omega⟩
   ·have hz : (xs[k - 1]?.getD 0 == 0) = false := by assumption
    have hz' : xs[k - 1]?.getD 0 ≠ 0 := by simpa using hz
    have e := Dig.trim_end hD h0 (by rw [HL.out]; exact hk) hz' HV.out
    go_ret
    refine ⟨?_, rfl⟩
    rw [e, List.length_take, HL.out, Nat.min_eq_left hk]
    rfl
  ·obtain rfl : k = 0 := by omega
   have e : Dig.wd (Dig.val xs) = [] := by rw [← HV.out]; exact Dig.wd_zero (Int.le_refl _)
   go_wp2
   go_ret
   exact ⟨by first | rfl | (rw [e]; rfl), rfl⟩
def shd : Nat → Int → Int
 | 0, x => x
 | k + 1, x => shd k x / 65536
def Ms : Nat → Int → List Int
 | 0, _ => []
 | k + 1, x => Ms k x ++ [shd k x % 65536]
theorem Kt : ∀ (k : Nat) (x : Int), (Ms k x).length = k
 | 0, _ => rfl
 | k + 1, x => by rw [Ms, List.length_append, Kt k x]; rfl
theorem Ba0 : ∀ (k : Nat) (x : Int), Dig.Wf (Ms k x)
 | 0, _ => Dig.wf_nil
 | k + 1, x => Dig.wf_append.2 ⟨Ba0 k x, Dig.wf_cons.2 ⟨by omega, Dig.wf_nil⟩⟩
theorem Uo {x : Int} (h0 : 0 ≤ x) (h1 : x < 18446744073709551616) : ∀ k, 0 ≤ shd k x ∧ shd k x < 18446744073709551616
 | 0 => ⟨h0, h1⟩
 | k + 1 => by have := Uo h0 h1 k; rw [shd]; omega
theorem Bd0 {x : Int} (h0 : 0 ≤ x) (h1 : x < 18446744073709551616) : Dig.val (Ms 4 x) = x := by
 simp only [Ms, shd, List.nil_append, List.cons_append, Dig.val_cons, Dig.val_nil, Dig.B_eq]
 omega
def Md (xs : List Int) : List Int := xs.flatMap (Ms 4)
theorem Fi : ∀ xs, (Md xs).length = 4 * xs.length
 | [] => rfl
 | x :: xs => by have := Fi xs; unfold Md at *; rw [List.flatMap_cons, List.length_append, Kt, this, List.length_cons]; omega
theorem Gh : ∀ xs, Dig.Wf (Md xs)
 | [] => Dig.wf_nil
 | x :: xs => by have := Gh xs; unfold Md at *; rw [List.flatMap_cons]; exact Dig.wf_append.2 ⟨Ba0 4 x, this⟩
theorem Gg : ∀ {xs : List Int}, Wf xs → Dig.val (Md xs) = val xs
 | [], _ => rfl
 | x :: xs, h => by
  have ih := Gg (wf_cons.1 h).2
  have hx := (wf_cons.1 h).1
  unfold Md at *
  rw [List.flatMap_cons, Dig.val_append, Bd0 hx.1 hx.2, Kt, ih, val_cons]
  have : Dig.B ^ 4 = B := by decide
  rw [this]
theorem Bb5 (xs : List Int) (i : Nat) (hi : i < xs.length) : Md (xs.take (i + 1)) = Md (xs.take i) ++ Ms 4 (xs[i]?.getD 0) := by
 rw [Dd (xs := xs) (k := i + 1) (by omega) (by omega), Nat.add_sub_cancel]
 unfold Md
 rw [List.flatMap_append]; simp
theorem Sp {xs : List Int} (h : Dig.Wf xs) : Wf xs := fun x hx => by have := h x hx; omega
theorem Fy {w wr w4 : World} {v : Value} {m : Nat} {ys : List Int} {o : Obj} (ho : wr.ownsRow w.heap.size 51 1 v m (cellsOf ys)) (hb : Below w.heap.size w wr) (hg : (wr.alloc o).grownBy w4 v.ownBlock) : Below w.heap.size w w4 :=
 (Ba hb o).trans (Cf (B := w.heap.size) hg (by have := hb.size; simp; omega) (fun k hk => (ho.lt k hk).1))
theorem Jd (A : Option Addr) (n c : Nat) (xs : List Int) (w : World) (h : Arr w A n c xs) (hn : n ≤ 100000000) :
  Calls Tryz.prog 121 #[.slice A n c] w fun e w' => ∃ A' n' c', e = .returned (.slice A' n' c') ∧ Own w' w.heap.size A' n' c' (Dig.wd (val xs)) ∧ Below w.heap.size w w' := by
 have hl := h.len
 have hcap := h.cap
 have hbig := h.big
 subst hl
 go_enter Tryz.func121, Tryz.ntmps121
 go_wp2
 go_loopw [3, 4] (fun vd vi wr => ∃ (i : Nat), i ≤ xs.length ∧ vi = .int .i64 i ∧ wr.ownsRow w.heap.size 51 1 vd (4 * i) (cellsOf (Md (xs.take i))) ∧ Below w.heap.size w wr) (fun _ vi _ => xs.length + 1 - (intOf vi).toNat)
 case atStart => exact ⟨0, Nat.zero_le _, rfl, Hq w _, Bb w⟩
 case round =>
  obtain ⟨i, hi, rfl, ho, hW⟩ := hrel
  by_cases h0 : i < xs.length
  ·obtain ⟨b, o, rfl, hlt, hc⟩ := (h.below hW).mem (by omega)
   have k1 := hc i h0
   have x1 := h.words i
   have hs := Bb5 xs i h0
   rw [List.getD_eq_getElem?_getD] at k1 x1
   generalize xs[i]?.getD 0 = x at *
   have hr := Uo x1.1 x1.2
   clear hc
   have HR := Be hr
   have HS := Be hs
   clear hs hr
   go_wp2
   go_loopw [3, 5, 6] (fun vd vw vk wr => ∃ (k : Nat), k ≤ 4 ∧ vk = .int .i64 k ∧ vw = .int .u64 (shd k x) ∧ wr.ownsRow w.heap.size 51 1 vd (4 * i + k) (cellsOf (Md (xs.take i) ++ Ms k x)) ∧ Below w.heap.size w wr) (fun _ _ vk _ => 5 - (intOf vk).toNat)
   case atStart => exact ⟨0, by omega, rfl, rfl, by simpa [Ms] using ho, hW⟩
   case round =>
    obtain ⟨k, hk, rfl, rfl, ho2, hW2⟩ := hrel
    by_cases hk4 : k < 4
    ·have sr := HR.out k
     have e1 : shd (k + 1) x = shd k x / 65536 := rfl
     have e2 : Ms (k + 1) x = Ms k x ++ [shd k x % 65536] := rfl
     generalize shd k x = s at *
     have t1 : s.tmod 65536 = s % 65536 := Int.tmod_eq_emod_of_nonneg sr.1
     have t2 : s.tdiv 65536 = s / 65536 := Int.tdiv_eq_ediv_of_nonneg sr.1
     have E1 := Be e1
     have E2 := Be e2
     clear e1 e2
     go_wp2_with (at_builtin; refine De rfl _ _ rfl w.heap.size _ (4 * i + k) (Md (xs.take i) ++ Ms k x) rfl (ho2.alloc _) _ 1 1 [s % 65536] rfl (Db rfl (s % 65536) (by omega) (by omega)) (4 * i + k + 1) rfl (by omega) (by have := hW2.size; simp; omega) ?_)
     intro v4 w4 ho4 hg4
     have hb4 := Fy ho2 hW2 hg4
     have HO : Hid (w4.ownsRow w.heap.size 51 1 v4 (4 * i + (k + 1)) (cellsOf (Md (xs.take i) ++ Ms (k + 1) x))) := by rw [E2.out, ← Nat.add_assoc]; exact ho4
     clear ho4
     go_wp2
     exact ⟨⟨k + 1, by omega, by go_num, by rw [E1.out], HO.out, hb4⟩, by simp only [intOf]; omega⟩
    ·obtain rfl : k = 4 := by omega
     have HO : Hid (wr.ownsRow w.heap.size 51 1 u3 (4 * (i + 1)) (cellsOf (Md (xs.take (i + 1))))) := by rw [HS.out, Nat.mul_add]; exact ho2
     clear ho2
     go_wp2
     exact ⟨⟨i + 1, by omega, by go_num, HO.out, hW2⟩, by simp only [intOf]; omega⟩
  ·obtain rfl : i = xs.length := by omega
   rw [List.take_length] at ho
   have hw := Sp (Gh xs)
   obtain ⟨A2, c2, rfl, hO⟩ := Dg ho hw
   have C := Be (cut A2 _ c2 _ wr hO.arr (Gh xs))
   have hv := Gg h.wf
   have hD := Gh xs
   have hT := hO.take (Dig.wd (Dig.val (Md xs))).length (by have := Dig.wd_len hD; rw [hO.len] at this; exact this)
   rw [Dig.wd_take hD, hv] at hT
   rw [hv] at C
   clear ho hv hD
   go_wp2_with fail
   refine C.out.mono ?_; rintro r w' ⟨rfl, rfl⟩
   go_wp2
   go_ret
   exact ⟨A2, _, c2, rfl, hT, hW⟩
open Go.RowKit Num
set_option maxRecDepth 100000
theorem Bce {ys : List Int} (h : Wf ys) (hv : 0 < ys.length → B ^ (ys.length - 1) ≤ val ys) : wd (val ys) = ys := by
 have ht := wd_take h
 have hl := wd_len h
 by_cases h0 : 0 < ys.length
 ·have : ys.length ≤ (wd (val ys)).length := by
   by_cases hh : ys.length ≤ (wd (val ys)).length
   ·exact hh
   ·have := lt_pow_of_wd_length (n := val ys) (k := ys.length - 1) (val_nonneg h) (by omega)
    have := hv h0
    omega
  rw [List.take_of_length_le this] at ht
  exact ht.symm
 ·rw [List.take_of_length_le (by omega)] at ht
  exact ht.symm
theorem Bcz {X : List Int} {p m : Nat} (hp : p < X.length) : Dig.val ((X.drop p).take (m + 1)) = Dig.val ((X.drop (p + 1)).take m) * 65536 + X[p]?.getD 0 := by
 rw [List.drop_eq_getElem_cons hp, List.take_succ_cons, Dig.val_cons, List.getElem?_eq_getElem hp, Dig.B_eq]
 simp only [Option.getD_some]; omega
theorem Wm {X : List Int} {p m : Nat} (hp : X.length ≤ p) : Dig.val ((X.drop p).take m) = 0 := by
 rw [List.drop_eq_nil_of_le hp]; simp [Dig.val]
theorem Bbg {X : List Int} (h : Dig.Wf X) (p : Nat) {m : Nat} (hm : m ≤ 3) : 0 ≤ Dig.val ((X.drop p).take m) ∧ Dig.val ((X.drop p).take m) < 281474976710656 := by
 have hw := (h.drop p).take m
 have h1 := Dig.val_lt hw
 have h2 := Dig.B_pow_le (a := ((X.drop p).take m).length) (b := 3) (by simp; omega)
 have h3 : Dig.B ^ 3 = 281474976710656 := by decide
 rw [h3] at h2
 exact ⟨Dig.val_nonneg hw, by omega⟩
theorem Zu {X ys : List Int} {j : Nat} (hl : ys.length = j) (hv : val ys = Dig.val (X.take (4 * j))) (hj : 4 * j < X.length) : val (ys ++ [Dig.val ((X.drop (4 * j)).take 4)]) = Dig.val (X.take (4 * (j + 1))) := by
 have e : X.take (4 * (j + 1)) = X.take (4 * j) ++ (X.drop (4 * j)).take 4 := by rw [Nat.mul_add, List.take_add]
 rw [val_append, hv, hl, e, Dig.val_append, List.length_take, Nat.min_eq_left (by omega), Ds]
 have : Dig.B ^ (4 * j) = B ^ j := by rw [Int.pow_mul]; rfl
 rw [this]
theorem Bcf {v : Int} (hv0 : 0 ≤ v) {ys : List Int} {j : Nat} (h : Wf ys) (hl : ys.length = j) (hv : val ys = Dig.val ((Dig.wd v).take (4 * j))) (h1 : (Dig.wd v).length ≤ 4 * j) (h2 : 0 < j → 4 * (j - 1) < (Dig.wd v).length) : wd v = ys := by
 rw [List.take_of_length_le h1, Dig.val_wd v hv0] at hv
 rw [← hv]
 refine Bce h (fun h0 => ?_)
 rw [hv, hl]
 have h3 := Dig.pow_le_of_wd_length (n := v) (k := 4 * (j - 1)) (h2 (by omega))
 have : Dig.B ^ (4 * (j - 1)) = B ^ (j - 1) := by rw [Int.pow_mul]; rfl
 rw [← this]; exact h3
theorem words (A : Option Addr) (n c : Nat) (ds : List Int) (w : World) (h : Arr w A n c ds) (hD : Dig.Wf ds) (hn : n ≤ 1000000000) :
  Calls Tryz.prog 122 #[.slice A n c] w fun e w' => ∃ A' n' c', e = .returned (.slice A' n' c') ∧ Own w' w.heap.size A' n' c' (wd (Dig.val ds)) ∧ Below w.heap.size w w' := by
 have C := Be (cut A n c ds w h hD)
 have hv0 := Dig.val_nonneg hD
 have hlen := Dig.wd_len hD
 rw [h.len] at hlen
 have hA := h.take (Dig.wd (Dig.val ds)).length hlen
 rw [Dig.wd_take hD] at hA
 generalize Dig.val ds = v at *
 have hX := Dig.wf_wd v hv0
 have hend := fun ys j => Bcf (v := v) (ys := ys) (j := j) hv0
 generalize hXe : Dig.wd v = X at *
 clear hXe
 have HE := Be hend
 clear hend
 have hcap := hA.cap
 have hbig := hA.big
 go_enter Tryz.func122, Tryz.ntmps122
 go_wp2_with fail
 refine C.out.mono ?_; rintro r w' ⟨rfl, rfl⟩
 go_wp2
 go_loopw [3, 4] (fun vd vi wr => ∃ (j : Nat) (ys : List Int), vi = .int .i64 (4 * j : Nat) ∧ ys.length = j ∧ (0 < j → 4 * (j - 1) < X.length) ∧ Wf ys ∧ Hid (val ys = Dig.val (X.take (4 * j))) ∧ wr.ownsRow w.heap.size 51 1 vd j (cellsOf ys) ∧ Below w.heap.size w wr) (fun _ vi _ => X.length + 4 - (intOf vi).toNat)
 case atStart => exact ⟨0, [], rfl, rfl, fun h => absurd h (by omega), wf_nil, by show _ = _; simp [val, Dig.val], Hq w _, Bb w⟩
 case round =>
  obtain ⟨j, ys, rfl, hlj, hj1, hwy, hvy, ho, hW⟩ := hrel
  by_cases h0 : 4 * j < X.length
  ·have hst := Zu hlj hvy.out h0
   have HS := Be hst
   clear hst
   have d0 : decide (((4 * j : Nat) : Int) < X.length) = true := by simp; omega
   generalize hp : 4 * j = p at *
   go_wp2
   go_loop [5, 6] (fun vw vk => ∃ (r : Nat), r ≤ 4 ∧ vk = .int .i64 ((r : Int) - 1) ∧ vw = .int .u64 (Dig.val ((X.drop (p + r)).take (4 - r)))) (fun _ vk => (intOf vk + 1).toNat)
   case atStart => exact ⟨4, by omega, by go_num, by simp [Dig.val]⟩
   case round =>
    obtain ⟨r, hr, rfl, rfl⟩ := hrel
    by_cases hr0 : 0 < r
    ·obtain ⟨k, rfl⟩ : ∃ k, r = k + 1 := ⟨r - 1, by omega⟩
     rw [show (((k + 1 : Nat) : Int) - 1) = (k : Int) from by omega]
     have r3 := Bbg hX (p + (k + 1)) (m := 4 - (k + 1)) (by omega)
     have ds1 := fun hp => Bcz (X := X) (p := p + k) (m := 4 - (k + 1)) hp
     have dn1 := fun hp => Wm (X := X) (p := p + k) (m := 4 - k) hp
     have dn2 := fun hp => Wm (X := X) (p := p + (k + 1)) (m := 4 - (k + 1)) hp
     rw [show 4 - (k + 1) + 1 = 4 - k from by omega, Nat.add_assoc] at ds1
     have e5 : (k : Int) - 1 = ((k : Nat) : Int) - 1 := rfl
     by_cases hq : p + k < X.length
     ·have hds := ds1 hq
      obtain ⟨b, o, rfl, hlt, hc⟩ := (hA.below hW).mem (by omega)
      have k1 := hc (p + k) hq
      have x1 := hX.getD (p + k)
      rw [List.getD_eq_getElem?_getD] at k1 x1
      generalize Dig.val ((X.drop (p + (k + 1))).take (4 - (k + 1))) = u at *
      generalize X[p + k]?.getD 0 = x at *
      have HD := Be hds
      have d2 : decide ((p : Int) + k < X.length) = true := by simp; omega
      clear ds1 dn1 dn2 hc hds
      go_wp2
      exact ⟨⟨k, by omega, rfl, by rw [HD.out]⟩, by simp only [intOf]; omega⟩
     ·have d2 : decide ((p : Int) + k < X.length) = false := by simp; omega
      have z1 := dn1 (by omega)
      have z2 := dn2 (by omega)
      rw [z2]
      have HD := Be z1
      clear ds1 dn1 dn2 z1 z2
      go_wp2
      exact ⟨⟨k, by omega, rfl, by rw [HD.out]⟩, by simp only [intOf]; omega⟩
    ·obtain rfl : r = 0 := by omega
     have r4 : 0 ≤ Dig.val ((X.drop p).take 4) ∧ Dig.val ((X.drop p).take 4) < 18446744073709551616 := by
      have hw := (hX.drop p).take 4
      have h1 := Dig.val_lt hw
      have h2 := Dig.B_pow_le (a := ((X.drop p).take 4).length) (b := 4) (by simp; omega)
      have h3 : Dig.B ^ 4 = 18446744073709551616 := by decide
      rw [h3] at h2
      exact ⟨Dig.val_nonneg hw, by omega⟩
     rw [Nat.add_zero, Nat.sub_zero]
     generalize Dig.val ((X.drop p).take 4) = u at *
     go_wp2_with (at_builtin; refine De rfl _ _ rfl w.heap.size _ j ys rfl (ho.alloc _) _ 1 1 [u] rfl (Db rfl u r4.1 r4.2) (j + 1) rfl (by omega) (by have := hW.size; simp; omega) ?_)
     intro v4 w4 ho4 hg4
     have hb4 := Fy ho hW hg4
     have hw4 : Wf (ys ++ [u]) := wf_append.2 ⟨hwy, Vz r4.1 r4.2⟩
     have HO := Be ho4
     clear ho4
     go_wp2
     exact ⟨⟨j + 1, ys ++ [u], by go_num, by simp; omega, fun _ => by omega, hw4, HS.out, HO.out, hb4⟩, by simp only [intOf]; omega⟩
  ·have hend := HE.out ys j hwy hlj hvy.out (by omega) hj1
   have HF := Be hend
   clear hend
   obtain ⟨A2, c2, rfl, hO⟩ := Dg ho hwy
   have d0 : decide (((4 * j : Nat) : Int) < X.length) = false := by simp; omega
   clear hvy
   go_wp2
   go_ret
   exact ⟨A2, _, c2, rfl, by rw [HF.out]; exact hO, hW⟩
open Go.RowKit Num
set_option maxRecDepth 100000
theorem Mm {x : Int} (h0 : 0 ≤ x) (h1 : x < 18446744073709551616) : IntKind.u64.wrap x = x := by rw [IntKind.wrap_u64]; omega
theorem Bgt {x : Int} (h0 : 0 ≤ x) (h1 : x < 9223372036854775808) : IntKind.i64.wrap x = x := by
 simp [IntKind.wrap, IntKind.bits, IntKind.signed]; omega
theorem rmul (A A' : Option Addr) (n c n' c' : Nat) (xs ys : List Int) (w : World) (h : Arr w A n c xs) (h' : Arr w A' n' c' ys) (hn : n ≤ 100000000) (hn' : n' ≤ 100000000) :
  Calls Tryz.prog 86 #[.slice A n c, .slice A' n' c'] w fun e w' => ∃ A2 n2 c2, e = .returned (.slice A2 n2 c2) ∧ Own w' w.heap.size A2 n2 c2 (wd (val xs * val ys)) ∧ Below w.heap.size w w' := by
 have hvx := h.val_nonneg
 have hvy := h'.val_nonneg
 have DX := Be (Jd A n c xs w h hn)
 have DY := Be (fun w' (hb : Below w.heap.size w w') => Jd A' n' c' ys w' (h'.below hb) hn')
 have lX : (Dig.wd (val xs)).length ≤ 4 * n := by
  have := Dig.wd_len (Gh xs)
  rw [Gg h.wf, Fi, h.len] at this; exact this
 have lY : (Dig.wd (val ys)).length ≤ 4 * n' := by
  have := Dig.wd_len (Gh ys)
  rw [Gg h'.wf, Fi, h'.len] at this; exact this
 have wX := Dig.wf_wd _ hvx
 have wY := Dig.wf_wd _ hvy
 have vX := Dig.val_wd _ hvx
 have vY := Dig.val_wd _ hvy
 generalize hXe : Dig.wd (val xs) = X at *
 generalize hYe : Dig.wd (val ys) = Y at *
 clear hXe hYe
 rw [← vX, ← vY]
 clear vX vY hvx hvy
 go_enter Tryz.func86, Tryz.ntmps86
 go_wp2_with fail
 refine DX.out.mono ?_; rintro r w1 ⟨A1, n1, c1, rfl, hO1, hb1⟩
 obtain rfl := hO1.len
 go_wp2_with fail
 refine (DY.out _ hb1).mono ?_; rintro r w2 ⟨A2, n2, c2, rfl, hO2, hb2⟩
 obtain rfl := hO2.len
 have hw2 := Bc hb1 hb2
 have a1 := hO1.arr.below hb2
 have a2 := hO2.arr
 clear hO1 hO2
 go_wp2_with (at_make; refine Jc rfl _ _ rfl _ _ (X.length + Y.length) rfl rfl ?m1 ?m2 ?m3 ?_)
 case m1 => omega
 case m2 => omega
 case m3 => omega
 intro g w3 hg hrow hb3
 have ap1 := a1.apart (Nat.le_of_eq hg.symm)
 have ap2 := a2.apart (Nat.le_of_eq hg.symm)
 have hb3' : Below w2.heap.size w2 w3 := hb3.mono (Nat.le_of_eq hg.symm)
 have hw3 := Bc hw2 hb3'
 have hgw : w.heap.size ≤ g := by have := hw2.size; omega
 have a1 := a1.below hb3'
 have a2 := a2.below hb3'
 have cap1 := a1.cap
 have cap2 := a1.big
 have cap3 := a2.cap
 have cap4 := a2.big
 clear hg hb3 hb3'
 go_wp2
 go_loopw [8] (fun vi wr => ∃ (i : Nat) (Z : List Int), i ≤ X.length ∧ vi = .int .i64 i ∧ Z.length = X.length + Y.length ∧ Dig.Wf Z ∧ Row wr g Z ∧ Dig.PlainInv Z Y X i 0 0 0 ∧ w3.grownBy wr (some g)) (fun vi _ => X.length + 1 - (intOf vi).toNat)
 case atStart => exact ⟨0, _, Nat.zero_le _, rfl, by simp, Dig.wf_replicate _, hrow, Dig.plain_start Y X _, Do _ _⟩
 case round =>
  obtain ⟨i, Z, hi, rfl, hlZ, hwZ, hR, hI, hG⟩ := hrel
  by_cases h0 : i < X.length
  ·have x1 := wX.getD i
   have hI2 := Dig.plain_begin (X.getD i 0) hI
   have hlast := fun Z c (h : Dig.PlainInv Z Y X i Y.length (X.getD i 0) c) hl => Dig.plain_last (x := X.getD i 0) h h0 hl rfl
   have A1' := a1.other hG ap1
   obtain ⟨b, o, rfl, hlt, hc⟩ := A1'.mem (by omega)
   have hx0 : w3.cell? ⟨b, o + i, none⟩ = some (.int .u64 (X.getD i 0)) := by
    obtain ⟨b', o', e, _, hh⟩ := a1.mem (by omega)
    cases e
    exact hh i h0
   generalize X.getD i 0 = x at *
   clear hc hI A1'
   have HLA := Be hlast
   clear hlast
   go_wp2
   go_loopw [9, 10] (fun vc vk wr => ∃ (k : Nat) (cy : Int) (V : List Int), k ≤ Y.length ∧ vk = .int .i64 k ∧ vc = .int .u64 cy ∧ 0 ≤ cy ∧ cy < 65536 ∧ V.length = X.length + Y.length ∧ Dig.Wf V ∧ Row wr g V ∧ Dig.PlainInv V Y X i k x cy ∧ w3.grownBy wr (some g)) (fun _ vk _ => Y.length + 1 - (intOf vk).toNat)
   case atStart => exact ⟨0, 0, Z, Nat.zero_le _, rfl, rfl, by omega, by omega, hlZ, hwZ, hR, hI2, hG⟩
   case round =>
    obtain ⟨k, cy, V, hk, rfl, rfl, hc0, hc1, hlV, hwV, hRV, hIV, hGV⟩ := hrel
    by_cases hk0 : k < Y.length
    ·obtain ⟨b2, o2, rfl, hlt2, hc2⟩ := (a2.other hGV ap2).mem (by omega)
     have m1 := hc2 k hk0
     have y1 := wY.getD k
     obtain ⟨b3, o3, e3, _, hc3⟩ := (a1.other hGV ap1).mem (by omega)
     cases e3
     have m2 := hc3 i h0
     have hxx : X.getD i 0 = x := by
      obtain ⟨b', o', e, _, hh⟩ := a1.mem (by omega)
      cases e
      have := (hh i h0).symm.trans hx0
      simpa using this
     rw [hxx] at m2
     have r1 := hRV.cell (i + k) (by omega)
     have r2 := hRV.free (i + k)
     have s1 := hwV.getD (i + k)
     have hset := fun W (hr : Row W g V) v h0 h1 => hr.set (i + k) (by omega) v h0 h1
     have hwset := fun v h0 h1 => hwV.set (i + k) (x := v) h0 h1
     have hst := fun s' c' e => Dig.plain_step (s' := s') (c' := c') hIV hk0 (by omega) rfl rfl e
     generalize Y.getD k 0 = y at *
     generalize V.getD (i + k) 0 = s at *
     have p1 : x * y ≤ 65535 * y := Int.mul_le_mul_of_nonneg_right (by omega) y1.1
     have p2 : 0 ≤ x * y := Int.mul_nonneg x1.1 y1.1
     have HS := Be (hst ((s + x * y + cy) % 65536) ((s + x * y + cy) / 65536) (by omega))
     have q1 := Mm (x := x * y) p2 (by omega)
     have q2 := Mm (x := s + x * y) (by omega) (by omega)
     have q3 := Mm (x := s + x * y + cy) (by omega) (by omega)
     have q4 := Bgt (x := (i : Int) + k) (by omega) (by omega)
     have t1 : (s + x * y + cy).tmod 65536 = (s + x * y + cy) % 65536 := Int.tmod_eq_emod_of_nonneg (by omega)
     have t2 : (s + x * y + cy).tdiv 65536 = (s + x * y + cy) / 65536 := Int.tdiv_eq_ediv_of_nonneg (by omega)
     have u1 : 0 ≤ (s + x * y + cy) / 65536 ∧ (s + x * y + cy) / 65536 < 65536 := by omega
     have u2 : 0 ≤ (s + x * y + cy) % 65536 ∧ (s + x * y + cy) % 65536 < 65536 := by omega
     have u3' : (i : Int) + k < (X.length + Y.length : Nat) := by omega
     clear hc2 hc3 hst hIV hxx
     go_wp2
     go_quiet (fail)
     have HW := Be (hwset _ u2.1 u2.2)
     clear hwset q1 q2 q3 q4
     go_wp2
     exact ⟨⟨k + 1, _, _, by omega, by go_num, rfl, u1.1, u1.2, by rw [List.length_set]; exact hlV, HW.out, hset _ (hRV.drewN _) _ u2.1 (by omega), HS.out, Bi (Wv hGV _) (Br _ _ _ _)⟩, by simp only [intOf]; omega⟩
    ·obtain rfl : k = Y.length := by omega
     have hset := hRV.set (i + Y.length) (by omega) cy hc0 (by omega)
     have r2 := hRV.free (i + Y.length)
     have r1 := hRV.cell (i + Y.length) (by omega)
     have HS := Be (HLA.out _ _ hIV (by omega))
     have HW := Be (hwV.set (i + Y.length) hc0 hc1)
     clear hIV
     go_wp2
     exact ⟨⟨i + 1, _, by omega, by go_num, by rw [List.length_set]; exact hlV, HW.out, hset, HS.out, Bi hGV (Br _ _ _ _)⟩, by simp only [intOf]; omega⟩
  ·obtain rfl : i = X.length := by omega
   have hz := Dig.plain_end hI (Nat.le_refl _)
   have hO := hR.own (n := X.length + Y.length) (c := X.length + Y.length) (Bk := w.heap.size) hlZ (Nat.le_refl _) (by omega) hgw
   have hbr : Below w.heap.size w wr := hw3.trans (Cf hG hw3.size (fun q hq => by cases hq; exact hgw))
   have WW := Be (words _ _ _ Z wr hO.arr hwZ (by omega))
   rw [hz, Int.mul_comm] at WW
   clear hz hI
   go_wp2_with fail
   refine WW.out.mono ?_; rintro r w5 ⟨A5, n5, c5, rfl, hO5, hb5⟩
   go_wp2
   go_ret
   exact ⟨A5, n5, c5, rfl, hO5.mono hbr.size, Bc hbr hb5⟩
open Go.RowKit Num
set_option maxRecDepth 100000
theorem Ks (X : List Int) (i : Nat) : Dig.val (X.take (i + 1)) = Dig.val (X.take i) + Dig.B ^ i * X.getD i 0 := by
 by_cases h : i < X.length
 ·rw [Dd (xs := X) (k := i + 1) (by omega) (by omega), Nat.add_sub_cancel, Dig.val_append, List.length_take, Nat.min_eq_left (by omega), ← List.getD_eq_getElem?_getD]
  simp [Dig.val]
 ·rw [List.take_of_length_le (by omega), List.take_of_length_le (by omega), List.getD_eq_getElem?_getD, List.getElem?_eq_none (by omega)]
  simp
theorem Kr (S : List Int) (d : Int) : Dig.val (S ++ [d]) = Dig.val S + Dig.B ^ S.length * d := by rw [Dig.val_append]; simp [Dig.val]
theorem Bcn {S X Y : List Int} {i : Nat} {cy n : Int} (hl : S.length = i) (h : Dig.val S + cy * Dig.B ^ i = Dig.val (X.take i) + Dig.val (Y.take i)) (hn : n = cy + X.getD i 0 + Y.getD i 0) :
  Dig.val (S ++ [n % 65536]) + n / 65536 * Dig.B ^ (i + 1) = Dig.val (X.take (i + 1)) + Dig.val (Y.take (i + 1)) := by
 rw [Kr, hl, Ks, Ks, Int.pow_succ]
 have e : n = n % 65536 + Dig.B * (n / 65536) := by rw [Dig.B_eq]; omega
 generalize Dig.B ^ i = p at *
 generalize X.getD i 0 = x at *
 generalize Y.getD i 0 = y at *
 generalize n % 65536 = a at *
 generalize n / 65536 = b at *
 have e2 : p * a + b * (p * Dig.B) = p * n := by rw [e]; grind
 have e3 : p * n = p * cy + p * x + p * y := by rw [hn]; grind
 have e4 : cy * p = p * cy := Int.mul_comm _ _
 omega
theorem Bcm {S X Y : List Int} {i : Nat} {cy : Int} (hl : S.length = i) (h : Dig.val S + cy * Dig.B ^ i = Dig.val (X.take i) + Dig.val (Y.take i)) (hx : X.length ≤ i) (hy : Y.length ≤ i) :
  Dig.val (S ++ [cy]) = Dig.val X + Dig.val Y := by
 rw [List.take_of_length_le hx, List.take_of_length_le hy] at h
 rw [Kr, hl, ← h, Int.mul_comm]
theorem radd (A A' : Option Addr) (n c n' c' : Nat) (xs ys : List Int) (w : World) (h : Arr w A n c xs) (h' : Arr w A' n' c' ys) (hn : n ≤ 100000000) (hn' : n' ≤ 100000000) :
  Calls Tryz.prog 110 #[.slice A n c, .slice A' n' c'] w fun e w' => ∃ A2 n2 c2, e = .returned (.slice A2 n2 c2) ∧ Own w' w.heap.size A2 n2 c2 (wd (val xs + val ys)) ∧ Below w.heap.size w w' := by
 have hvx := h.val_nonneg
 have hvy := h'.val_nonneg
 have DX := Be (Jd A n c xs w h hn)
 have DY := Be (fun w' (hb : Below w.heap.size w w') => Jd A' n' c' ys w' (h'.below hb) hn')
 have lX : (Dig.wd (val xs)).length ≤ 4 * n := by
  have := Dig.wd_len (Gh xs)
  rw [Gg h.wf, Fi, h.len] at this; exact this
 have lY : (Dig.wd (val ys)).length ≤ 4 * n' := by
  have := Dig.wd_len (Gh ys)
  rw [Gg h'.wf, Fi, h'.len] at this; exact this
 have wX := Dig.wf_wd _ hvx
 have wY := Dig.wf_wd _ hvy
 have vX := Dig.val_wd _ hvx
 have vY := Dig.val_wd _ hvy
 generalize hXe : Dig.wd (val xs) = X at *
 generalize hYe : Dig.wd (val ys) = Y at *
 clear hXe hYe
 rw [← vX, ← vY]
 clear vX vY hvx hvy
 go_enter Tryz.func110, Tryz.ntmps110
 go_wp2_with fail
 refine DX.out.mono ?_; rintro r w1 ⟨A1, n1, c1, rfl, hO1, hb1⟩
 obtain rfl := hO1.len
 go_wp2_with fail
 refine (DY.out _ hb1).mono ?_; rintro r w2 ⟨A2, n2, c2, rfl, hO2, hb2⟩
 obtain rfl := hO2.len
 have hw2 := Bc hb1 hb2
 have a1 := hO1.arr.below hb2
 have a2 := hO2.arr
 have cap1 := a1.cap
 have cap2 := a1.big
 have cap3 := a2.cap
 have cap4 := a2.big
 clear hO1 hO2
 go_wp2
 go_loopw [7, 8, 9] (fun vs vc vi wr => ∃ (i : Nat) (cy : Int) (S : List Int), i ≤ max X.length Y.length ∧ vi = .int .i64 i ∧ vc = .int .u64 cy ∧ 0 ≤ cy ∧ cy ≤ 1 ∧ S.length = i ∧ Dig.Wf S ∧ Hid (Dig.val S + cy * Dig.B ^ i = Dig.val (X.take i) + Dig.val (Y.take i)) ∧ wr.ownsRow w2.heap.size 51 1 vs i (cellsOf S) ∧ Below w2.heap.size w2 wr) (fun _ _ vi _ => max X.length Y.length + 1 - (intOf vi).toNat)
 case atStart => exact ⟨0, 0, [], Nat.zero_le _, rfl, rfl, by omega, by omega, rfl, Dig.wf_nil, by show _ = _; simp [Dig.val], Hq w2 _, Bb w2⟩
 case round =>
  obtain ⟨i, cy, S, hi, rfl, rfl, hc0, hc1, hlS, hwS, hv, ho, hW⟩ := hrel
  have xg := wX.getD i
  have yg := wY.getD i
  have hst := fun n hn => Bcn (n := n) hlS hv.out hn
  have zx : ¬ i < X.length → X.getD i 0 = 0 := fun hh => by rw [List.getD_eq_getElem?_getD, List.getElem?_eq_none (by omega)]; rfl
  have zy : ¬ i < Y.length → Y.getD i 0 = 0 := fun hh => by rw [List.getD_eq_getElem?_getD, List.getElem?_eq_none (by omega)]; rfl
  have hwn : ∀ n : Int, Dig.Wf (S ++ [n % 65536]) := fun n => Dig.wf_append.2 ⟨hwS, Dig.wf_cons.2 ⟨by omega, Dig.wf_nil⟩⟩
  have a1' := a1.below hW
  have a2' := a2.below hW
  by_cases hx : i < X.length
  ·obtain ⟨b, o, rfl, hlt, hc⟩ := a1'.mem (by omega)
   have k1 := hc i hx
   have d1 : decide ((i : Int) < X.length) = true := by simp; omega
   clear hc
   by_cases hy : i < Y.length
   ·obtain ⟨b', o', rfl, hlt', hc'⟩ := a2'.mem (by omega)
    have k2 := hc' i hy
    have d2 : decide ((i : Int) < Y.length) = true := by simp; omega
    clear hc'
    generalize X.getD i 0 = x at *
    generalize Y.getD i 0 = y at *
    (have HST := Be (hst (cy + x + y) (by omega)); have HWN := Be (hwn (cy + x + y)); have t1 : (cy + x + y).tmod 65536 = (cy + x + y) % 65536 := Int.tmod_eq_emod_of_nonneg (by omega); have t2 : (cy + x + y).tdiv 65536 = (cy + x + y) / 65536 := Int.tdiv_eq_ediv_of_nonneg (by omega); clear hst hwn hv zx zy; go_wp2_with (at_builtin; refine De rfl _ _ rfl w2.heap.size _ i S rfl (ho.alloc _) _ 1 1 [(cy + x + y) % 65536] rfl (Db rfl ((cy + x + y) % 65536) (by omega) (by omega)) (i + 1) rfl (by omega) (by have := hW.size; simp; omega) ?_); intro v4 w4 ho4 hg4; have hb4 := Fy ho hW hg4; have HO := Be ho4; clear ho4; go_wp2; exact ⟨⟨i + 1, _, _, by omega, by go_num, rfl, by omega, by omega, by simp; omega, HWN.out, HST.out, HO.out, hb4⟩, by simp only [intOf]; omega⟩)
   ·have d2 : decide ((i : Int) < Y.length) = false := by simp; omega
    have y0 := zy hy
    generalize X.getD i 0 = x at *
    generalize Y.getD i 0 = y at *
    subst y0
    (have HST := Be (hst (cy + x) (by omega)); have HWN := Be (hwn (cy + x)); have t1 : (cy + x).tmod 65536 = (cy + x) % 65536 := Int.tmod_eq_emod_of_nonneg (by omega); have t2 : (cy + x).tdiv 65536 = (cy + x) / 65536 := Int.tdiv_eq_ediv_of_nonneg (by omega); clear hst hwn hv zx zy; go_wp2_with (at_builtin; refine De rfl _ _ rfl w2.heap.size _ i S rfl (ho.alloc _) _ 1 1 [(cy + x) % 65536] rfl (Db rfl ((cy + x) % 65536) (by omega) (by omega)) (i + 1) rfl (by omega) (by have := hW.size; simp; omega) ?_); intro v4 w4 ho4 hg4; have hb4 := Fy ho hW hg4; have HO := Be ho4; clear ho4; go_wp2; exact ⟨⟨i + 1, _, _, by omega, by go_num, rfl, by omega, by omega, by simp; omega, HWN.out, HST.out, HO.out, hb4⟩, by simp only [intOf]; omega⟩)
  ·have d1 : decide ((i : Int) < X.length) = false := by simp; omega
   have x0 := zx hx
   by_cases hy : i < Y.length
   ·obtain ⟨b', o', rfl, hlt', hc'⟩ := a2'.mem (by omega)
    have k2 := hc' i hy
    have d2 : decide ((i : Int) < Y.length) = true := by simp; omega
    clear hc'
    generalize X.getD i 0 = x at *
    generalize Y.getD i 0 = y at *
    subst x0
    (have HST := Be (hst (cy + y) (by omega)); have HWN := Be (hwn (cy + y)); have t1 : (cy + y).tmod 65536 = (cy + y) % 65536 := Int.tmod_eq_emod_of_nonneg (by omega); have t2 : (cy + y).tdiv 65536 = (cy + y) / 65536 := Int.tdiv_eq_ediv_of_nonneg (by omega); clear hst hwn hv zx zy; go_wp2_with (at_builtin; refine De rfl _ _ rfl w2.heap.size _ i S rfl (ho.alloc _) _ 1 1 [(cy + y) % 65536] rfl (Db rfl ((cy + y) % 65536) (by omega) (by omega)) (i + 1) rfl (by omega) (by have := hW.size; simp; omega) ?_); intro v4 w4 ho4 hg4; have hb4 := Fy ho hW hg4; have HO := Be ho4; clear ho4; go_wp2; exact ⟨⟨i + 1, _, _, by omega, by go_num, rfl, by omega, by omega, by simp; omega, HWN.out, HST.out, HO.out, hb4⟩, by simp only [intOf]; omega⟩)
   ·have d2 : decide ((i : Int) < Y.length) = false := by simp; omega
    have hl := Bcm hlS hv.out (by omega) (by omega)
    have hwl : Dig.Wf (S ++ [cy]) := Dig.wf_append.2 ⟨hwS, Dig.wf_cons.2 ⟨by omega, Dig.wf_nil⟩⟩
    have HL := Be hl
    clear hst hwn hv zx zy hl x0
    go_wp2_with (at_builtin; refine De rfl _ _ rfl w2.heap.size _ i S rfl (ho.alloc _) _ 1 1 [cy] rfl (Db rfl cy (by omega) (by omega)) (i + 1) rfl (by omega) (by have := hW.size; simp; omega) ?_)
    intro v4 w4 ho4 hg4
    have hb4 := Fy ho hW hg4
    obtain ⟨A5, c5, rfl, hO⟩ := Dg ho4 (Sp hwl)
    have WW := Be (words _ _ _ _ w4 hO.arr hwl (by omega))
    rw [HL.out] at WW
    have hw4 := Bc hw2 hb4
    clear ho4
    go_wp2_with fail
    refine WW.out.mono ?_; rintro r w5 ⟨A6, n6, c6, rfl, hO6, hb6⟩
    go_wp2
    go_ret
    exact ⟨A6, n6, c6, rfl, hO6.mono hw4.size, Bc hw4 hb6⟩
open Go.RowKit Num
set_option maxRecDepth 100000
theorem Rr (A A' : Option Addr) (n c n' c' : Nat) (x y : Int) (w : World) (nx : 0 ≤ x) (ny : 0 ≤ y) (hx : Arr w A n c (Dig.wd x)) (hy : Arr w A' n' c' (Dig.wd y)) :
  Calls Tryz.prog 128 #[.slice A n c, .slice A' n' c'] w fun e w' => e = .returned (.int .i64 (Cs x y)) ∧ Still w w' := by
 have bx := hx.cap
 have cx := hx.big
 have by' := hy.cap
 have cy := hy.big
 have wx := Dig.wf_wd x nx
 have wy := Dig.wf_wd y ny
 have lx := hx.len
 have ly := hy.len
 by_cases hl : n = n'
 ·have hlb : ((n : Int) != (n' : Int)) = false := by simp [hl]
  have hlxy : (Dig.wd x).length = (Dig.wd y).length := by omega
  have vx := Dig.val_wd x nx
  have vy := Dig.val_wd y ny
  generalize Dig.wd x = X at *
  generalize Dig.wd y = Y at *
  subst lx
  have HL := Be hlxy
  have HLL := Be hl
  have VX := Be vx
  have VY := Be vy
  clear hlxy ly vx vy
  subst hl
  go_enter Tryz.func128, Tryz.ntmps128
  go_wp2
  go_loopw [5] (fun v wr => ∃ r : Nat, r ≤ X.length ∧ v = .int .i64 ((r : Int) - 1) ∧ Hid (X.drop r = Y.drop r) ∧ Still w wr) (fun v _ => (intOf v + 1).toNat)
  case atStart => exact ⟨X.length, Nat.le_refl _, rfl, by show _ = _; rw [List.drop_length, HL.out, List.drop_length], Still.refl _⟩
  case round =>
   obtain ⟨r, hr, rfl, hd, ⟨m, rfl⟩⟩ := hrel
   by_cases h0 : 0 < r
   ·obtain ⟨b, o, rfl, hlt, hc⟩ := hx.mem (by omega)
    obtain ⟨b', o', rfl, hlt', hc'⟩ := hy.mem (by omega)
    obtain ⟨q, rfl⟩ : ∃ q, r = q + 1 := ⟨r - 1, by omega⟩
    rw [show (((q + 1 : Nat) : Int) - 1) = (q : Int) from by omega]
    have k1 := hc q (by omega)
    have k2 := hc' q (by omega)
    rw [List.getD_eq_getElem?_getD] at k1 k2
    have l1 : (q : Int) < X.length := by omega
    have hlen := HL.out
    have v1 := fun hlt => Dig.lt_of_word wx hlen wy (i := q) (by omega) hd.out hlt
    have v2 := fun hlt => Dig.lt_of_word wy hlen.symm wx (i := q) (by omega) hd.out.symm hlt
    have v3 := fun heq => Dig.drop_same hlen (i := q) (by omega) hd.out heq
    rw [VX.out, VY.out] at v1 v2
    generalize X[q]?.getD 0 = p at *
    generalize Y[q]?.getD 0 = s at *
    clear hc hc' hlen
    have V1 := Be v1
    have V2 := Be v2
    have V3 := Be v3
    clear v1 v2 v3
    by_cases h1 : p < s
    ·have d1 : decide (p < s) = true := by simp [h1]
     have e := Gk (V1.out h1)
     have HE := Be e
     clear e
     go_wp2
     go_quiet (fail)
     go_wp2
     go_ret
     exact ⟨by rw [HE.out]; rfl, (by repeat (first | exact Still.refl _ | apply Still.drewN | apply Still.drew))⟩
    ·have d1 : decide (p < s) = false := by simp; omega
     by_cases h2 : s < p
     ·have d2 : decide (s < p) = true := by simp [h2]
      have HE := Be (Jy (V2.out h2))
      go_wp2
      go_quiet (fail)
      go_wp2
      go_quiet (fail)
      go_wp2
      go_ret
      exact ⟨by rw [HE.out]; rfl, (by repeat (first | exact Still.refl _ | apply Still.drewN | apply Still.drew))⟩
     ·have d2 : decide (s < p) = false := by simp; omega
      have HD := Be (V3.out (by omega))
      go_wp2
      go_quiet (fail)
      go_wp2
      go_quiet (fail)
      go_wp2
      exact ⟨⟨q, by omega, rfl, HD.out, (by repeat (first | exact Still.refl _ | apply Still.drewN | apply Still.drew))⟩, by simp only [intOf]; omega⟩
   ·obtain rfl : r = 0 := by omega
    have hd' : X = Y := hd.out
    have hv : x = y := by rw [← VX.out, ← VY.out, hd']
    have HE := Be (Lh hv)
    clear hd'
    go_wp2
    go_ret
    exact ⟨by rw [HE.out]; rfl, (by repeat (first | exact Still.refl _ | apply Still.drewN | apply Still.drew))⟩
 ·have hlb : ((n : Int) != (n' : Int)) = true := by simp; omega
  by_cases hlt : n < n'
  ·have e := Gk (Dig.lt_of_len nx (y := y) (by omega))
   have d1 : decide ((n : Int) < n') = true := by simp; omega
   have HE := Be e
   clear e
   go_enter Tryz.func128, Tryz.ntmps128
   go_wp2
   go_ret
   exact ⟨by rw [HE.out]; rfl, (by repeat (first | exact Still.refl _ | apply Still.drewN | apply Still.drew))⟩
  ·have e := Jy (Dig.lt_of_len ny (y := x) (by omega))
   have d1 : decide ((n : Int) < n') = false := by simp; omega
   have HE := Be e
   clear e
   go_enter Tryz.func128, Tryz.ntmps128
   go_wp2
   go_ret
   exact ⟨by rw [HE.out]; rfl, (by repeat (first | exact Still.refl _ | apply Still.drewN | apply Still.drew))⟩
theorem Beb (A A' : Option Addr) (n c n' c' : Nat) (xs ys : List Int) (w : World) (h : Arr w A n c xs) (h' : Arr w A' n' c' ys) (hn : n ≤ 100000000) (hn' : n' ≤ 100000000) :
  Calls Tryz.prog 96 #[.slice A n c, .slice A' n' c'] w fun e w' => e = .returned (.int .i64 (Cs (val xs) (val ys))) ∧ Below w.heap.size w w' := by
 have hvx := h.val_nonneg
 have hvy := h'.val_nonneg
 have DX := Be (Jd A n c xs w h hn)
 have DY := Be (fun w' (hb : Below w.heap.size w w') => Jd A' n' c' ys w' (h'.below hb) hn')
 go_enter Tryz.func96, Tryz.ntmps96
 go_wp2_with fail
 refine DX.out.mono ?_; rintro r w1 ⟨A1, n1, c1, rfl, hO1, hb1⟩
 go_wp2_with fail
 refine (DY.out _ hb1).mono ?_; rintro r w2 ⟨A2, n2, c2, rfl, hO2, hb2⟩
 have hw2 := Bc hb1 hb2
 have C := Be (Rr A1 A2 n1 c1 n2 c2 _ _ w2 hvx hvy (hO1.arr.below hb2) hO2.arr)
 go_wp2_with fail
 refine C.out.mono ?_; rintro r w3 ⟨rfl, hs⟩
 have hw3 := hw2.trans (hs.below _)
 go_wp2
 go_ret
 exact ⟨rfl, hw3⟩
end Go.Proofs.YteffemhapnbaeaaGreatDoor
