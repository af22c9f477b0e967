/- nat.plain: a product word by word. -/
import Derived.Test.YtbfnjjnnlbchgaaDoorNatH
import Derived.Test.YtbfnjjnnlbchgaaDoorBits
namespace Go.Proofs.YtbfnjjnnlbchgaaDoor
open Go.RowKit Num
set_option maxRecDepth 100000

theorem add64_ex (x y : Int) (hx0 : 0 ≤ x) (hx : x < 18446744073709551616) (hy0 : 0 ≤ y) (hy : y < 18446744073709551616) (w : World) : ∃ s k : Int,
    (callFunc 144 #[.int .u64 x, .int .u64 y, .int .u64 0]).run Tryd.prog w = .ok (.value (.tuple #[.int .u64 s, .int .u64 k])) w ∧ x + y = s + k * 18446744073709551616 ∧ 0 ≤ s ∧ s < 18446744073709551616 ∧ 0 ≤ k ∧ k ≤ 1 := by
  have h := call_add64 x y 0 hx0 hy0 (Int.le_refl _) (by omega) w
  exact ⟨_, _, h, by omega, by omega, by omega, by omega, by omega⟩
theorem mul_ex (x y : Int) (hx0 : 0 ≤ x) (hx : x < 18446744073709551616) (hy0 : 0 ≤ y) (hy : y < 18446744073709551616) : ∃ hi lo : Int,
    x * y / 18446744073709551616 = hi ∧ x * y % 18446744073709551616 = lo ∧ x * y = hi * 18446744073709551616 + lo ∧ 0 ≤ lo ∧ lo < 18446744073709551616 ∧ 0 ≤ hi ∧ x * y ≤ 340282366920938463426481119284349108225 := by
  have h1 : x * y ≤ 18446744073709551615 * y := Int.mul_le_mul_of_nonneg_right (by omega) hy0
  have h2 : 0 ≤ x * y := Int.mul_nonneg hx0 hy0
  exact ⟨_, _, rfl, rfl, by omega, by omega, by omega, by omega, by omega⟩
/-- What stands while a word's product is added: i words are done, k words of this one. -/
structure PlainInv (Z xs ys : List Int) (i k : Nat) (x c : Int) : Prop where
  v : val Z + c * B ^ (i + k) = val xs * val (ys.take i) + x * B ^ i * val (xs.take k)
  z : ∀ j, i + xs.length ≤ j → Z.getD j 0 = 0
theorem plain_step {Z xs ys : List Int} {i k : Nat} {x y c s s' c' : Int} (h : PlainInv Z xs ys i k x c) (hk : k < xs.length) (hl : i + k < Z.length) (hs : Z.getD (i + k) 0 = s) (hy : xs.getD k 0 = y) (e : x * y + c + s = s' + c' * 18446744073709551616) :
    PlainInv (Z.set (i + k) s') xs ys i (k + 1) x c' := by
  refine ⟨?_, fun j hj => by rw [getD_set_other _ _ _ _ (by omega)]; exact h.z j hj⟩
  have hv := h.v
  have e1 : val (xs.take (k + 1)) = val (xs.take k) + B ^ k * y := by
    rw [take_last (xs := xs) (k := k + 1) (by omega) (by omega), Nat.add_sub_cancel, val_append, List.length_take, Nat.min_eq_left (by omega), ← List.getD_eq_getElem?_getD, hy]
    simp [val]
  rw [val_set _ _ _ hl, hs, e1, ← Nat.add_assoc, Int.pow_succ, Int.pow_add]
  rw [Int.pow_add] at hv
  generalize B ^ i = p at *
  generalize B ^ k = q at *
  have e2 : c' * (p * q * B) = (x * y + c + s - s') * (p * q) := by
    have : x * y + c + s - s' = c' * B := by rw [B_eq]; omega
    rw [this]; grind
  rw [e2]; grind
theorem plain_last {Z xs ys : List Int} {i : Nat} {x c : Int} (h : PlainInv Z xs ys i xs.length x c) (hi : i < ys.length) (hl : i + xs.length < Z.length) (hx : ys.getD i 0 = x) :
    PlainInv (Z.set (i + xs.length) c) xs ys (i + 1) 0 0 0 := by
  have hv := h.v
  refine ⟨?_, fun j hj => by rw [getD_set_other _ _ _ _ (by omega)]; exact h.z j (by omega)⟩
  have e1 : val (ys.take (i + 1)) = val (ys.take i) + B ^ i * x := by
    rw [take_last (xs := ys) (k := i + 1) (by omega) (by omega), Nat.add_sub_cancel, val_append, List.length_take, Nat.min_eq_left (by omega), ← List.getD_eq_getElem?_getD, hx]
    simp [val]
  rw [List.take_length] at hv
  rw [val_set _ _ _ hl, h.z _ (Nat.le_refl _), e1, List.take_zero, val_nil]
  generalize B ^ i = p at *
  generalize B ^ (i + xs.length) = q at *
  grind
theorem plain_begin {Z xs ys : List Int} {i : Nat} (x : Int) (h : PlainInv Z xs ys i 0 0 0) : PlainInv Z xs ys i 0 x 0 := by
  have hv := h.v
  refine ⟨?_, h.z⟩
  rw [List.take_zero, val_nil, Int.zero_mul, Int.mul_zero] at *
  exact hv
theorem plain_start (xs ys : List Int) (n : Nat) : PlainInv (List.replicate n 0) xs ys 0 0 0 0 := by
  refine ⟨by rw [val_replicate]; simp [val], fun j _ => ?_⟩
  rw [List.getD_eq_getElem?_getD, List.getElem?_replicate]; split <;> rfl
theorem plain_end {Z xs ys : List Int} {i : Nat} (h : PlainInv Z xs ys i 0 0 0) (hi : ys.length ≤ i) : val Z = val xs * val ys := by
  have hv := h.v
  rw [List.take_of_length_le hi, Int.zero_mul, Int.zero_mul, Int.zero_mul] at hv
  omega
theorem mulPlain (g : Nat) (A A' : Option Addr) (n c n' c' : Nat) (xs ys : List Int) (w : World) (cs : Nat) (Bk : Nat) (hr : Row w g (List.replicate (n + n') 0)) (h : Arr w A n c xs) (h' : Arr w A' n' c' ys) (hd : blk A n = none ∨ blk A n ≠ some g) (hd' : blk A' n' = none ∨ blk A' n' ≠ some g) (_hB : Bk ≤ g) (hcs : n + n' ≤ cs) (hcs' : cs ≤ 9223372036854775807) (hn : n ≤ 100000000) (hn' : n' ≤ 100000000) :
    Calls Tryd.prog 154 #[.slice (some ⟨g, 0, none⟩) (n + n') cs, .slice A n c, .slice A' n' c'] w fun e w' => e = .returned (.tuple #[]) ∧ ∃ zs, zs.length = n + n' ∧ Row w' g zs ∧ val zs = val xs * val ys ∧ w.grownBy w' (some g) := by
  have cap1 := h.cap
  have cap2 := h.big
  have cap3 := h'.cap
  have cap4 := h'.big
  have hl := h.len
  have hl' := h'.len
  subst hl
  subst hl'
  go_enter Tryd.func154, Tryd.ntmps154
  go_wp2
  go_loopw [16] (fun vi wr => ∃ (i : Nat) (Z : List Int), i ≤ ys.length ∧ vi = .int .i64 i ∧ Z.length = xs.length + ys.length ∧ Row wr g Z ∧ PlainInv Z xs ys i 0 0 0 ∧ w.grownBy wr (some g)) (fun vi _ => ys.length + 1 - (intOf vi).toNat)
  case atStart => exact ⟨0, _, Nat.zero_le _, rfl, by simp, hr, plain_start xs ys _, grown_self w _⟩
  case round =>
    obtain ⟨i, Z, hi, rfl, hlZ, hR, hI, hG⟩ := hrel
    have hA' := h'.other hG hd'
    by_cases h0 : i < ys.length
    · obtain ⟨b, o, rfl, hlt, hc⟩ := hA'.mem (by omega)
      have k1 := hc i h0
      have x1 := hA'.words i
      have hI2 := plain_begin (ys.getD i 0) hI
      have hlast := fun Z c (h : PlainInv Z xs ys i xs.length (ys.getD i 0) c) hl => plain_last (x := ys.getD i 0) h h0 hl rfl
      generalize ys.getD i 0 = x at *
      clear hc hI
      have HLA := Lib.hid hlast
      clear hlast
      go_wp2
      go_loopw [8, 23] (fun vc vk wk => ∃ (k : Nat) (cy : Int) (Y : List Int), k ≤ xs.length ∧ vk = .int .i64 k ∧ vc = .int .u64 cy ∧ 0 ≤ cy ∧ cy < 18446744073709551616 ∧ Y.length = xs.length + ys.length ∧ Row wk g Y ∧ PlainInv Y xs ys i k x cy ∧ w.grownBy wk (some g)) (fun _ vk _ => xs.length + 1 - (intOf vk).toNat)
      case atStart => exact ⟨0, 0, Z, Nat.zero_le _, rfl, rfl, by omega, by omega, hlZ, hR, hI2, hG⟩
      case round =>
        obtain ⟨k, cy, Y, hk, rfl, rfl, hc0, hc1, hlY, hRY, hIY, hGY⟩ := hrel
        have hA := h.other hGY hd
        by_cases hk0 : k < xs.length
        · obtain ⟨b2, o2, rfl, hlt2, hc2⟩ := hA.mem (by omega)
          have m1 := hc2 k hk0
          have y1 := hA.words k
          have r1 := hRY.cell (i + k) (by omega)
          have r2 := hRY.free (i + k)
          have s1 := hRY.wf.getD (i + k)
          have hset := fun v h0 h1 => hRY.set (i + k) (by omega) v h0 h1
          have hst := fun s' c' e => plain_step (s' := s') (c' := c') hIY hk0 (by omega) rfl rfl e
          generalize xs.getD k 0 = y at *
          generalize Y.getD (i + k) 0 = s at *
          obtain ⟨hi', lo, e1, e2, e3, l0, l1, h2, h3⟩ := mul_ex x y x1.1 x1.2 y1.1 y1.2
          obtain ⟨l2, c2, ha1, e4, l3, l4, l5, l6⟩ := add64_ex lo cy l0 l1 hc0 hc1 wr
          obtain ⟨s', c3, ha2, e5, l7, l8, l9, l10⟩ := add64_ex s l2 s1.1 s1.2 l3 l4 wr
          have HM := Lib.hid (mul64 x y wr x1.1 x1.2 y1.1 y1.2)
          rw [e1, e2] at HM
          have q1 : hi' + c2 < 18446744073709551616 := by omega
          have q2 : hi' + c2 + c3 < 18446744073709551616 := by omega
          have HS := Lib.hid (hst s' (hi' + c2 + c3) (by omega))
          clear hc2 e1 e2 e3 h3 e4 e5 hst hIY
          go_wp2_with fail
          refine HM.out.mono ?_; rintro r w' ⟨rfl, rfl⟩
          go_wp2_with fail
          exact ⟨⟨k + 1, _, _, by omega, by go_num, rfl, by omega, q2, by rw [List.length_set]; exact hlY, hset s' l7 l8, HS.out, grown_trans hGY (grown_set _ _ _ _)⟩, by simp only [intOf]; omega⟩
        · obtain rfl : k = xs.length := by omega
          have hset := hRY.set (i + xs.length) (by omega) cy hc0 hc1
          have r2 := hRY.free (i + xs.length)
          have r1 := hRY.cell (i + xs.length) (by omega)
          have HS := Lib.hid (HLA.out _ _ hIY (by omega))
          clear hIY
          go_wp2_with fail
          exact ⟨⟨i + 1, _, by omega, by go_num, by rw [List.length_set]; exact hlY, hset, HS.out, grown_trans hGY (grown_set _ _ _ _)⟩, by simp only [intOf]; omega⟩
    · obtain rfl : i = ys.length := by omega
      have hz := plain_end hI (Nat.le_refl _)
      have HZ := Lib.hid hz
      clear hz
      go_wp2
      go_end0
      exact ⟨rfl, Z, hlZ, hR, HZ.out, hG⟩
end Go.Proofs.YtbfnjjnnlbchgaaDoor
