/- A text of ours, with only what the claim's row needs (wip/tools/shake.py). -/
import Derived.Test.YteffemhapnbaeaaGreatDoorMC
import Derived.Test.YteffemhapnbaeaaGreatDoorMA
import Derived.Deep.RegionWith
namespace Go.Proofs.YteffemhapnbaeaaGreatDoor
open Go.RowKit Num
set_option maxRecDepth 100000

theorem add64_ex (x y : Int) (hx0 : 0 ≤ x) (hx : x < 18446744073709551616) (hy0 : 0 ≤ y) (hy : y < 18446744073709551616) (w : World) : ∃ s k : Int,
    (callFunc 133 #[.int .u64 x, .int .u64 y, .int .u64 0]).run Tryz.prog w = .ok (.value (.tuple #[.int .u64 s, .int .u64 k])) w ∧ x + y = s + k * 18446744073709551616 ∧ 0 ≤ s ∧ s < 18446744073709551616 ∧ 0 ≤ k ∧ k ≤ 1 := by
  have h := call_add64 x y 0 hx0 hy0 (Int.le_refl _) (by omega) w
  exact ⟨_, _, h, by omega, by omega, by omega, by omega, by omega⟩
theorem mul_ex (x y : Int) (hx0 : 0 ≤ x) (hx : x < 18446744073709551616) (hy0 : 0 ≤ y) (hy : y < 18446744073709551616) : ∃ hi lo : Int,
    x * y / 18446744073709551616 = hi ∧ x * y % 18446744073709551616 = lo ∧ x * y = hi * 18446744073709551616 + lo ∧ 0 ≤ lo ∧ lo < 18446744073709551616 ∧ 0 ≤ hi ∧ x * y ≤ 340282366920938463426481119284349108225 := by
  have h1 : x * y ≤ 18446744073709551615 * y := Int.mul_le_mul_of_nonneg_right (by omega) hy0
  have h2 : 0 ≤ x * y := Int.mul_nonneg hx0 hy0
  exact ⟨_, _, rfl, rfl, by omega, by omega, by omega, by omega, by omega⟩
/-- What stands while a word's product is added: i words are done, k words of this one. -/
structure PlainInv (Z xs ys : List Int) (i k : Nat) (x c : Int) : Prop where
  v : val Z + c * B ^ (i + k) = val xs * val (ys.take i) + x * B ^ i * val (xs.take k)
  z : ∀ j, i + xs.length ≤ j → Z.getD j 0 = 0
theorem plain_step {Z xs ys : List Int} {i k : Nat} {x y c s s' c' : Int} (h : PlainInv Z xs ys i k x c) (hk : k < xs.length) (hl : i + k < Z.length) (hs : Z.getD (i + k) 0 = s) (hy : xs.getD k 0 = y) (e : x * y + c + s = s' + c' * 18446744073709551616) :
    PlainInv (Z.set (i + k) s') xs ys i (k + 1) x c' := by
  refine ⟨?_, fun j hj => by rw [getD_set_other _ _ _ _ (by omega)]; exact h.z j hj⟩
  have hv := h.v
  have e1 : val (xs.take (k + 1)) = val (xs.take k) + B ^ k * y := by
    rw [take_last (xs := xs) (k := k + 1) (by omega) (by omega), Nat.add_sub_cancel, val_append, List.length_take, Nat.min_eq_left (by omega), ← List.getD_eq_getElem?_getD, hy]
    simp [val]
  rw [val_set _ _ _ hl, hs, e1, ← Nat.add_assoc, Int.pow_succ, Int.pow_add]
  rw [Int.pow_add] at hv
  generalize B ^ i = p at *
  generalize B ^ k = q at *
  have e2 : c' * (p * q * B) = (x * y + c + s - s') * (p * q) := by
    have : x * y + c + s - s' = c' * B := by rw [B_eq]; omega
    rw [this]; grind
  rw [e2]; grind
theorem plain_last {Z xs ys : List Int} {i : Nat} {x c : Int} (h : PlainInv Z xs ys i xs.length x c) (hi : i < ys.length) (hl : i + xs.length < Z.length) (hx : ys.getD i 0 = x) :
    PlainInv (Z.set (i + xs.length) c) xs ys (i + 1) 0 0 0 := by
  have hv := h.v
  refine ⟨?_, fun j hj => by rw [getD_set_other _ _ _ _ (by omega)]; exact h.z j (by omega)⟩
  have e1 : val (ys.take (i + 1)) = val (ys.take i) + B ^ i * x := by
    rw [take_last (xs := ys) (k := i + 1) (by omega) (by omega), Nat.add_sub_cancel, val_append, List.length_take, Nat.min_eq_left (by omega), ← List.getD_eq_getElem?_getD, hx]
    simp [val]
  rw [List.take_length] at hv
  rw [val_set _ _ _ hl, h.z _ (Nat.le_refl _), e1, List.take_zero, val_nil]
  generalize B ^ i = p at *
  generalize B ^ (i + xs.length) = q at *
  grind
theorem plain_begin {Z xs ys : List Int} {i : Nat} (x : Int) (h : PlainInv Z xs ys i 0 0 0) : PlainInv Z xs ys i 0 x 0 := by
  have hv := h.v
  refine ⟨?_, h.z⟩
  rw [List.take_zero, val_nil, Int.zero_mul, Int.mul_zero] at *
  exact hv
theorem plain_start (xs ys : List Int) (n : Nat) : PlainInv (List.replicate n 0) xs ys 0 0 0 0 := by
  refine ⟨by rw [val_replicate]; simp [val], fun j _ => ?_⟩
  rw [List.getD_eq_getElem?_getD, List.getElem?_replicate]; split <;> rfl
theorem plain_end {Z xs ys : List Int} {i : Nat} (h : PlainInv Z xs ys i 0 0 0) (hi : ys.length ≤ i) : val Z = val xs * val ys := by
  have hv := h.v
  rw [List.take_of_length_le hi, Int.zero_mul, Int.zero_mul, Int.zero_mul] at hv
  omega
theorem mulPlain (g : Nat) (A A' : Option Addr) (n c n' c' : Nat) (xs ys : List Int) (w : World) (cs : Nat) (Bk : Nat) (hr : Row w g (List.replicate (n + n') 0)) (h : Arr w A n c xs) (h' : Arr w A' n' c' ys) (hd : blk A n = none ∨ blk A n ≠ some g) (hd' : blk A' n' = none ∨ blk A' n' ≠ some g) (_hB : Bk ≤ g) (hcs : n + n' ≤ cs) (hcs' : cs ≤ 9223372036854775807) (hn : n ≤ 100000000) (hn' : n' ≤ 100000000) :
    Calls Tryz.prog 116 #[.slice (some ⟨g, 0, none⟩) (n + n') cs, .slice A n c, .slice A' n' c'] w fun e w' => e = .returned (.tuple #[]) ∧ ∃ zs, zs.length = n + n' ∧ Row w' g zs ∧ val zs = val xs * val ys ∧ w.grownBy w' (some g) := by
  have cap1 := h.cap
  have cap2 := h.big
  have cap3 := h'.cap
  have cap4 := h'.big
  have hl := h.len
  have hl' := h'.len
  subst hl
  subst hl'
  go_enter Tryz.func116, Tryz.ntmps116
  go_wp2
  go_loopw [16] (fun vi wr => ∃ (i : Nat) (Z : List Int), i ≤ ys.length ∧ vi = .int .i64 i ∧ Z.length = xs.length + ys.length ∧ Row wr g Z ∧ PlainInv Z xs ys i 0 0 0 ∧ w.grownBy wr (some g)) (fun vi _ => ys.length + 1 - (intOf vi).toNat)
  case atStart => exact ⟨0, _, Nat.zero_le _, rfl, by simp, hr, plain_start xs ys _, grown_self w _⟩
  case round =>
    obtain ⟨i, Z, hi, rfl, hlZ, hR, hI, hG⟩ := hrel
    have hA' := h'.other hG hd'
    by_cases h0 : i < ys.length
    · obtain ⟨b, o, rfl, hlt, hc⟩ := hA'.mem (by omega)
      have k1 := hc i h0
      have x1 := hA'.words i
      have hI2 := plain_begin (ys.getD i 0) hI
      have hlast := fun Z c (h : PlainInv Z xs ys i xs.length (ys.getD i 0) c) hl => plain_last (x := ys.getD i 0) h h0 hl rfl
      generalize ys.getD i 0 = x at *
      clear hc hI
      have HLA := Lib.hid hlast
      clear hlast
      go_wp2
      go_loopw [8, 23] (fun vc vk wk => ∃ (k : Nat) (cy : Int) (Y : List Int), k ≤ xs.length ∧ vk = .int .i64 k ∧ vc = .int .u64 cy ∧ 0 ≤ cy ∧ cy < 18446744073709551616 ∧ Y.length = xs.length + ys.length ∧ Row wk g Y ∧ PlainInv Y xs ys i k x cy ∧ w.grownBy wk (some g)) (fun _ vk _ => xs.length + 1 - (intOf vk).toNat)
      case atStart => exact ⟨0, 0, Z, Nat.zero_le _, rfl, rfl, by omega, by omega, hlZ, hR, hI2, hG⟩
      case round =>
        obtain ⟨k, cy, Y, hk, rfl, rfl, hc0, hc1, hlY, hRY, hIY, hGY⟩ := hrel
        have hA := h.other hGY hd
        by_cases hk0 : k < xs.length
        · obtain ⟨b2, o2, rfl, hlt2, hc2⟩ := hA.mem (by omega)
          have m1 := hc2 k hk0
          have y1 := hA.words k
          have r1 := hRY.cell (i + k) (by omega)
          have r2 := hRY.free (i + k)
          have s1 := hRY.wf.getD (i + k)
          have hset := fun v h0 h1 => hRY.set (i + k) (by omega) v h0 h1
          have hst := fun s' c' e => plain_step (s' := s') (c' := c') hIY hk0 (by omega) rfl rfl e
          generalize xs.getD k 0 = y at *
          generalize Y.getD (i + k) 0 = s at *
          obtain ⟨hi', lo, e1, e2, e3, l0, l1, h2, h3⟩ := mul_ex x y x1.1 x1.2 y1.1 y1.2
          obtain ⟨l2, c2, ha1, e4, l3, l4, l5, l6⟩ := add64_ex lo cy l0 l1 hc0 hc1 wr
          obtain ⟨s', c3, ha2, e5, l7, l8, l9, l10⟩ := add64_ex s l2 s1.1 s1.2 l3 l4 wr
          have HM := Lib.hid (mul64 x y wr x1.1 x1.2 y1.1 y1.2)
          rw [e1, e2] at HM
          have q1 : hi' + c2 < 18446744073709551616 := by omega
          have q2 : hi' + c2 + c3 < 18446744073709551616 := by omega
          have HS := Lib.hid (hst s' (hi' + c2 + c3) (by omega))
          clear hc2 e1 e2 e3 h3 e4 e5 hst hIY
          go_wp2_with fail
          refine HM.out.mono ?_; rintro r w' ⟨rfl, rfl⟩
          go_wp2_with fail
          exact ⟨⟨k + 1, _, _, by omega, by go_num, rfl, by omega, q2, by rw [List.length_set]; exact hlY, hset s' l7 l8, HS.out, grown_trans hGY (grown_set _ _ _ _)⟩, by simp only [intOf]; omega⟩
        · obtain rfl : k = xs.length := by omega
          have hset := hRY.set (i + xs.length) (by omega) cy hc0 hc1
          have r2 := hRY.free (i + xs.length)
          have r1 := hRY.cell (i + xs.length) (by omega)
          have HS := Lib.hid (HLA.out _ _ hIY (by omega))
          clear hIY
          go_wp2_with fail
          exact ⟨⟨i + 1, _, by omega, by go_num, by rw [List.length_set]; exact hlY, hset, HS.out, grown_trans hGY (grown_set _ _ _ _)⟩, by simp only [intOf]; omega⟩
    · obtain rfl : i = ys.length := by omega
      have hz := plain_end hI (Nat.le_refl _)
      have HZ := Lib.hid hz
      clear hz
      go_wp2
      go_end0
      exact ⟨rfl, Z, hlZ, hR, HZ.out, hG⟩
end Go.Proofs.YteffemhapnbaeaaGreatDoor
namespace Go.Proofs.YteffemhapnbaeaaGreatDoor
open Go.RowKit Num
set_option maxRecDepth 100000

theorem Arr.drop_cut {w : World} {A : Option Addr} {n c : Nat} {xs : List Int} (h : Arr w A n c xs) (k : Nat) (hk : k ≤ n) : Arr w (if c = k then A else A.map (fun x => x.add k)) (n - k) (c - k) (xs.drop k) := by
  have hl := h.len
  have hc := h.cap
  have hb := h.big
  refine ⟨by simp; omega, h.wf.drop k, by omega, by omega, fun hn => ?_⟩
  rw [if_neg (by omega)]
  obtain ⟨b, o, rfl, hlt, hh⟩ := h.mem (by omega)
  refine ⟨b, o + k, by simp [Addr.add], hlt, fun j hj => ?_⟩
  rw [Nat.add_assoc, hh (k + j) (by omega)]
  simp only [List.getD_eq_getElem?_getD, List.getElem?_drop]
theorem part (q : Nat) (m : Nat) (A : Option Addr) (n c : Nat) (xs : List Int) (w : World) (h : Arr w A n c xs) (hq : w.cell? ⟨q, 0, none⟩ = some (.int .i64 m)) (_hf : w.frozen? ⟨q, 0, none⟩ = false) (_hm : m ≤ 100000000) (_hn : n ≤ 100000000) :
    Calls Tryz.prog 143 #[.slice A n c, .pointer (some ⟨q, 0, none⟩)] w fun e w' => ∃ A1 c1 A2 c2, e = .returned (.tuple #[.slice A1 (min m n) c1, .slice A2 (n - min m n) c2]) ∧ Arr w A1 (min m n) c1 (xs.take (min m n)) ∧ Arr w A2 (n - min m n) c2 (xs.drop (min m n)) ∧ Still w w' := by
  have e1 : min (m : Int) n = ((min m n : Nat) : Int) := by omega
  have h1 := h.take (min m n) (Nat.min_le_right _ _)
  have hcap := h.cap
  have hbig := h.big
  generalize hk : min m n = k at *
  have hkn : k ≤ n := by omega
  have hkc : k ≤ c := by omega
  clear hk
  have h2 := h.drop_cut k hkn
  by_cases hck : c = k
  · rw [if_pos hck] at h2
    subst hck
    go_enter Tryz.func143, Tryz.ntmps143
    go_wp2
    go_quiet (fail)
    go_wp2
    go_ret2
    exact ⟨A, c, _, _, by simp; omega, h1, h2, ⟨_, rfl⟩⟩
  · rw [if_neg hck] at h2
    go_enter Tryz.func143, Tryz.ntmps143
    go_wp2
    go_quiet (fail)
    go_wp2
    go_ret2
    exact ⟨A, c, _, _, by simp, h1, h2, ⟨_, rfl⟩⟩
theorem Own.blk_ge {w : World} {Bk : Nat} {A : Option Addr} {n c : Nat} {xs : List Int} (h : Own w Bk A n c xs) : ∀ k, blk A n = some k → Bk ≤ k := by
  intro k hk
  rcases Nat.eq_zero_or_pos n with h0 | h0
  · subst h0; cases hk
  · obtain ⟨g, S, rfl, hB, _⟩ := h.row h0
    rw [blk_pos h0] at hk; cases hk; exact hB
theorem blk_ne_of {a b : Option Nat} {k : Nat} (ha : a = none ∨ ∃ x, a = some x ∧ x < k) (hb : ∀ x, b = some x → k ≤ x) : a = none ∨ a ≠ b := by
  rcases ha with h | ⟨x, h, hx⟩
  · exact .inl h
  · refine .inr ?_
    intro e
    have := hb x (by rw [← e, h])
    omega
theorem grown_new {w a b : World} {g : Nat} {r : Option Nat} (h : w.grownBy a (some g)) (k : a.grownBy b r) (hr : ∀ x, r = some x → w.heap.size ≤ x) : w.grownBy b (some g) :=
  ⟨k.os.trans h.os, k.tape.trans h.tape, k.output.trans h.output, Nat.le_trans h.size k.size, fun i hi hne => (k.block i (Nat.lt_of_lt_of_le hi h.size) (by intro e; have := hr i e.symm; omega)).trans (h.block i hi hne)⟩
theorem grown_of_below {w a : World} (h : Below w.heap.size w a) (r : Option Nat) : w.grownBy a r := ⟨h.os, h.tape, h.output, h.size, fun i hi _ => h.block i hi⟩
def MulSpec (N : Nat) : Prop := ∀ (A A' : Option Addr) (n c n' c' : Nat) (xs ys : List Int) (w : World), Arr w A n c xs → Arr w A' n' c' ys → n ≤ N → n' ≤ N →
  Calls Tryz.prog 83 #[.slice A n c, .slice A' n' c'] w fun e w' => ∃ A2 n2 c2, e = .returned (.slice A2 n2 c2) ∧ Own w' w.heap.size A2 n2 c2 (wd (val xs * val ys)) ∧ Below w.heap.size w w'
theorem val_part (xs : List Int) (m : Nat) : val xs = val (xs.take (min m xs.length)) + B ^ m * val (xs.drop (min m xs.length)) := by
  by_cases h : m ≤ xs.length
  · rw [Nat.min_eq_left h]
    have := val_append (xs.take m) (xs.drop m)
    rw [List.take_append_drop, List.length_take, Nat.min_eq_left h] at this
    exact this
  · rw [Nat.min_eq_right (by omega), List.take_length, List.drop_length, val_nil, Int.mul_zero, Int.add_zero]
theorem wd_sum_len {xs ys : List Int} (h : Wf xs) (h' : Wf ys) {k : Nat} (hx : xs.length ≤ k) (hy : ys.length ≤ k) : (wd (val xs + val ys)).length ≤ k + 1 := by
  refine wd_length_le (by have := val_nonneg h; have := val_nonneg h'; omega) (Int.lt_of_lt_of_le (val_lt_max h h') (B_pow_le (by omega)))
theorem prod_len {xs ys : List Int} (h : Wf xs) (h' : Wf ys) : (wd (val xs * val ys)).length ≤ xs.length + ys.length := by
  have h1 := val_lt h
  have h2 := val_lt h'
  have h3 := val_nonneg h
  have h4 := val_nonneg h'
  refine wd_length_le (Int.mul_nonneg h3 h4) ?_
  rw [Int.pow_add]
  have h5 := B_pow_pos ys.length
  exact Int.lt_of_le_of_lt (Int.mul_le_mul_of_nonneg_left (Int.le_of_lt h2) h3) (Int.mul_lt_mul_of_pos_right h1 h5)
theorem Box.other {w w' : World} {g : Nat} {cs : Array Value} {t : TypeId} {r : Option Nat} (h : Box w g cs t) (hg : w.grownBy w' r) (hne : r ≠ some g) : Box w' g cs t :=
  ⟨(hg.block g h.lt (by intro e; exact hne e.symm)).trans h.heap⟩
theorem blk_row (g n : Nat) : ∀ k, blk (some ⟨g, 0, none⟩) n = some k → k = g := by
  intro k hk
  rcases Nat.eq_zero_or_pos n with h0 | h0
  · subst h0; cases hk
  · rw [blk_pos h0] at hk; cases hk; rfl
theorem grown_up {w a : World} {r : Option Nat} {g : Nat} (h : w.grownBy a r) (hr : ∀ k, r = some k → k = g) : w.grownBy a (some g) :=
  ⟨h.os, h.tape, h.output, h.size, fun i hi hne => h.block i hi (by intro e; exact hne (by rw [hr i e.symm]))⟩
theorem blk_less {A : Option Addr} {k n : Nat} (h : k ≤ n) {r : Option Nat} (hd : blk A n = none ∨ blk A n ≠ r) : blk A k = none ∨ blk A k ≠ r := by
  rcases Nat.eq_zero_or_pos k with h0 | h0
  · subst h0; exact .inl rfl
  · have e : blk A k = blk A n := by unfold blk; rw [if_neg (by omega), if_neg (by omega)]
    rw [e]; exact hd
theorem three_parts (a0 a1 b0 b1 p : Int) : (a0 + p * a1) * (b0 + p * b1) = a0 * b0 + p * ((a0 + a1) * (b0 + b1) - a0 * b0 - a1 * b1) + p * p * (a1 * b1) := by grind
set_option maxHeartbeats 2000000 in
theorem halves (N : Nat) (hN : N ≤ 100000000) (IH : MulSpec N) (g : Nat) (A A' : Option Addr) (n c n' c' : Nat) (xs ys : List Int) (w : World) (cs : Nat) (hr : Row w g (List.replicate (n + n') 0)) (h : Arr w A n c xs) (h' : Arr w A' n' c' ys) (hcs : n + n' ≤ cs) (hcs' : cs ≤ 9223372036854775807) (hnn : n' ≤ n) (hn : (n + 1) / 2 + 1 ≤ N) (hn0 : n ≤ 100000000) :
    Calls Tryz.prog 117 #[.slice (some ⟨g, 0, none⟩) (n + n') cs, .slice A n c, .slice A' n' c'] w fun e w' => e = .returned (.tuple #[]) ∧ ∃ zs, Own w' g (some ⟨g, 0, none⟩) (n + n') cs zs ∧ val zs = val xs * val ys ∧ w.grownBy w' (some g) := by
  have cap1 := h.cap
  have cap2 := h.big
  have cap3 := h'.cap
  have cap4 := h'.big
  have em : ((n : Int) + 1) / 2 = (((n + 1) / 2 : Nat) : Int) := by omega
  generalize hm : (n + 1) / 2 = m at *
  have hm1 : n ≤ 2 * m := by omega
  have b1 : Below w.heap.size w (w.alloc (.cells #[.int .i64 m] 3)) := below_alloc (below_self w) _
  have HA := Lib.hid (fun w' (hb : Below w.heap.size w w') hq hf => part w.heap.size m A n c xs w' (h.below hb) hq hf (by omega) (by omega))
  have HB := Lib.hid (fun w' (hb : Below w.heap.size w w') hq hf => part w.heap.size m A' n' c' ys w' (h'.below hb) hq hf (by omega) (by omega))
  have bx := box_new w #[.int .i64 (m : Int)] 3
  have hl := h.len
  have hl' := h'.len
  have v1 := val_part xs m
  have v2 := val_part ys m
  rw [hl] at v1
  rw [hl'] at v2
  have l1 : (xs.take (min m n)).length ≤ m := by simp; omega
  have l2 : (xs.drop (min m n)).length ≤ m := by simp; omega
  have l3 : (ys.take (min m n')).length ≤ m := by simp; omega
  have l4 : (ys.drop (min m n')).length ≤ m := by simp; omega
  generalize xs.take (min m n) = X0 at *
  generalize xs.drop (min m n) = X1 at *
  generalize ys.take (min m n') = Y0 at *
  generalize ys.drop (min m n') = Y1 at *
  have hk1 : min m n ≤ m := Nat.min_le_left _ _
  have hk2 : n - min m n ≤ m := by omega
  have hk3 : min m n' ≤ m := Nat.min_le_left _ _
  have hk4 : n' - min m n' ≤ m := by omega
  generalize n - min m n = k2 at *
  generalize n' - min m n' = k4 at *
  generalize min m n = k1 at *
  generalize min m n' = k3 at *
  have V1 := Lib.hid v1
  have V2 := Lib.hid v2
  clear v1 v2 hm
  have hlt : val xs * val ys < B ^ (n + n') := by
    have h1 := val_lt h.wf
    have h2 := val_lt h'.wf
    rw [hl] at h1
    rw [hl'] at h2
    rw [Int.pow_add]
    have h3 := h.val_nonneg
    have h4 := B_pow_pos n'
    exact Int.lt_of_le_of_lt (Int.mul_le_mul_of_nonneg_left (Int.le_of_lt h2) h3) (Int.mul_lt_mul_of_pos_right h1 h4)
  have HLT := Lib.hid hlt
  clear hlt hl hl'
  go_enter Tryz.func117, Tryz.ntmps117
  go_wp2_with fail
  refine (HA.out _ b1 (bx.cell 0) (bx.free 0)).mono ?_
  rintro r w2 ⟨A0, d0, A1, d1, rfl, ha0, ha1, hs⟩
  have bx2 := bx.later (hs.below _)
  have b2 := b1.trans (hs.below _)
  have ha0 := ha0.below (hs.below _)
  have ha1 := ha1.below (hs.below _)
  clear hs bx
  go_wp2_with fail
  refine (HB.out _ b2 (bx2.cell 0) (bx2.free 0)).mono ?_
  rintro r w3 ⟨B0, e0, B1, e1, rfl, hb0, hb1, hs⟩
  have bx3 := bx2.later (hs.below _)
  have b3 := b2.trans (hs.below _)
  have ha0 := ha0.below (hs.below _)
  have ha1 := ha1.below (hs.below _)
  have hb0 := hb0.below (hs.below _)
  have hb1 := hb1.below (hs.below _)
  clear hs bx2
  go_wp2_with fail
  refine (IH A0 B0 k1 d0 k3 e0 X0 Y0 w3 ha0 hb0 (by omega) (by omega)).mono ?_
  rintro r w4 ⟨AL, nL, cL, rfl, hL, hb4⟩
  have ha0 := ha0.below hb4
  have ha1 := ha1.below hb4
  have hb0 := hb0.below hb4
  have hb1 := hb1.below hb4
  have bx4 := bx3.later hb4
  have b4 := below_on b3 hb4
  have hLb := hL.blk_ge
  have hLl := hL.arr.blk_lt
  have hL := hL.arr
  clear bx3
  go_wp2_with fail
  refine (IH A1 B1 k2 d1 k4 e1 X1 Y1 w4 ha1 hb1 (by omega) (by omega)).mono ?_
  rintro r w5 ⟨AH, nH, cH, rfl, hH, hb5⟩
  have ha0 := ha0.below hb5
  have ha1 := ha1.below hb5
  have hb0 := hb0.below hb5
  have hb1 := hb1.below hb5
  have hL := hL.below hb5
  have bx5 := bx4.later hb5
  have b5 := below_on b4 hb5
  have hHb := hH.blk_ge
  have hHl := hH.arr.blk_lt
  have hH := hH.arr
  clear bx4
  go_wp2_with fail
  refine (add A0 A1 k1 d0 k2 d1 X0 X1 w5 ha0 ha1 (by omega) (by omega)).mono ?_
  rintro r w6 ⟨AX, nX, cX, rfl, hX, hb6⟩
  have hb0 := hb0.below hb6
  have hb1 := hb1.below hb6
  have hL := hL.below hb6
  have hH := hH.below hb6
  have bx6 := bx5.later hb6
  have b6 := below_on b5 hb6
  have hX := hX.arr
  have lX := wd_sum_len ha0.wf ha1.wf l1 l2
  rw [hX.len] at lX
  clear bx5
  go_wp2_with fail
  refine (add B0 B1 k3 e0 k4 e1 Y0 Y1 w6 hb0 hb1 (by omega) (by omega)).mono ?_
  rintro r w7 ⟨AY, nY, cY, rfl, hY, hb7⟩
  have hX := hX.below hb7
  have hL := hL.below hb7
  have hH := hH.below hb7
  have bx7 := bx6.later hb7
  have b7 := below_on b6 hb7
  have hY := hY.arr
  have lY := wd_sum_len hb0.wf hb1.wf l3 l4
  rw [hY.len] at lY
  clear bx6
  go_wp2_with fail
  refine (IH AX AY nX cX nY cY _ _ w7 hX hY (by omega) (by omega)).mono ?_
  rintro r w8 ⟨AM, nM, cM, rfl, hM, hb8⟩
  rw [val_wd _ (by have := ha0.val_nonneg; have := ha1.val_nonneg; omega), val_wd _ (by have := hb0.val_nonneg; have := hb1.val_nonneg; omega)] at hM
  have lM := prod_len hX.wf hY.wf
  have lL := prod_len (xs := X0) (ys := Y0) ha0.wf hb0.wf
  have lH := prod_len (xs := X1) (ys := Y1) ha1.wf hb1.wf
  rw [val_wd _ (by have := ha0.val_nonneg; have := ha1.val_nonneg; omega), val_wd _ (by have := hb0.val_nonneg; have := hb1.val_nonneg; omega), hX.len, hY.len, hM.len] at lM
  rw [hL.len] at lL
  rw [hH.len] at lH
  have hLl := hL.blk_lt
  have hHl := hH.blk_lt
  have hMb := hM.blk_ge
  have n1 := Int.mul_nonneg ha0.val_nonneg hb0.val_nonneg
  have n2 := Int.mul_nonneg ha1.val_nonneg hb1.val_nonneg
  have n3 : 0 ≤ (val X0 + val X1) * (val Y0 + val Y1) - val X0 * val Y0 - val X1 * val Y1 := by
    have h1 := Int.mul_nonneg ha0.val_nonneg hb1.val_nonneg
    have h2 := Int.mul_nonneg ha1.val_nonneg hb0.val_nonneg
    have : (val X0 + val X1) * (val Y0 + val Y1) = val X0 * val Y0 + val X1 * val Y1 + (val X0 * val Y1 + val X1 * val Y0) := by grind
    omega
  have hT : val xs * val ys = val X0 * val Y0 + B ^ m * ((val X0 + val X1) * (val Y0 + val Y1) - val X0 * val Y0 - val X1 * val Y1) + B ^ m * B ^ m * (val X1 * val Y1) := by
    rw [V1.out, V2.out]; exact three_parts _ _ _ _ _
  have hL := hL.below hb8
  have hH := hH.below hb8
  have bx8 := bx7.later hb8
  have hq7 := bx7.lt
  have b8 := below_on b7 hb8
  generalize (val X0 + val X1) * (val Y0 + val Y1) = M at *
  generalize val X0 * val Y0 = L at *
  generalize val X1 * val Y1 = H at *
  have hltM := lt_pow_of_wd_length (n := M) (k := nM) (by omega) (by rw [hM.len]; exact Nat.le_refl _)
  have hT2 := HLT.out
  rw [hT] at hT2
  have mm1 := B_pow_pos m
  have mm2 := Int.mul_nonneg (Int.le_of_lt mm1) n3
  have mm3 := Int.mul_nonneg (Int.mul_nonneg (Int.le_of_lt mm1) (Int.le_of_lt mm1)) n2
  have e1 := Int.emod_eq_of_lt (a := M - L) (b := B ^ nM) (by omega) (by omega)
  have e2 := Int.emod_eq_of_lt (a := M - L - H) (b := B ^ nM) (by omega) (by omega)
  have e3 := Int.emod_eq_of_lt (a := L) (b := B ^ (n + n')) (by omega) (by omega)
  have e4 := Int.emod_eq_of_lt (a := L + B ^ m * (M - L - H)) (b := B ^ (n + n')) (by omega) (by omega)
  have e5 := Int.emod_eq_of_lt (a := L + B ^ m * (M - L - H) + B ^ m * B ^ m * H) (b := B ^ (n + n')) (by omega) (by omega)
  have E1 := Lib.hid e1
  have E2 := Lib.hid e2
  have E3 := Lib.hid e3
  have E4 := Lib.hid e4
  have E5 := Lib.hid e5
  have HT := Lib.hid hT
  clear e1 e2 e3 e4 e5 hT hT2 mm1 mm2 mm3 hltM bx7
  have hS := (hr.own (Bk := g) (c := cs) (by simp) hcs hcs' (Nat.le_refl _))
  have hSl := hS.arr.blk_lt
  have hS8 := hS.below b8 (by intro k hk; rw [blk_row g _ k hk]; exact hr.lt)
  have dSM : blk (some ⟨g, 0, none⟩) (n + n') = none ∨ blk (some ⟨g, 0, none⟩) (n + n') ≠ blk AM nM := by
    refine blk_ne_of (k := w.heap.size) hSl ?_
    intro x hx; have := hMb x hx; have := b7.size; omega
  have dLM := blk_ne_of hLl hMb
  have dHM := blk_ne_of hHl hMb
  go_wp2_with fail
  refine (off AM AL nM cM nL cL _ _ 0 w8 _ hM hL dLM (by omega) (by omega) (by omega)).mono ?_
  rintro r w9 ⟨rfl, Z1, hM, hv1, hg9⟩
  have hL := hL.other hg9 dLM
  have hH := hH.other hg9 dHM
  have hS9 := hS8.other hg9 dSM
  have dq : blk AM nM ≠ some w.heap.size := by
    intro hx; have := hMb _ hx; omega
  have bx9 := bx8.other hg9 dq
  have G9 := grown_new (grown_of_below b8 (some g)) hg9 (fun x hx => by have := hMb x hx; have := b7.size; omega)
  rw [val_wd M (by omega), val_wd L n1, Int.pow_zero, Int.one_mul, E1.out] at hv1
  clear hS8 bx8 hg9 hb8
  go_wp2_with fail
  refine (off AM AH nM cM nH cH _ _ 0 w9 _ hM hH dHM (by omega) (by omega) (by omega)).mono ?_
  rintro r w10 ⟨rfl, Z2, hM, hv2, hg10⟩
  have hL := hL.other hg10 dLM
  have hH := hH.other hg10 dHM
  have hS10 := hS9.other hg10 dSM
  have bx10 := bx9.other hg10 dq
  have G10 := grown_new G9 hg10 (fun x hx => by have := hMb x hx; have := b7.size; omega)
  rw [hv1, val_wd _ n2, Int.pow_zero, Int.one_mul, E2.out] at hv2
  clear hS9 bx9 hg10 G9
  have dLS : blk AL nL = none ∨ blk AL nL ≠ blk (some ⟨g, 0, none⟩) (n + n') := by
    rcases hSl with hx | ⟨y, hx, hy⟩
    · rw [hx]
      rcases hLl with hz | ⟨z, hz, _⟩
      · exact .inl hz
      · exact .inr (by rw [hz]; simp)
    · refine .inr ?_
      intro e
      rw [hx] at e
      have := hLb y e
      have := b3.size
      omega
  have dHS : blk AH nH = none ∨ blk AH nH ≠ blk (some ⟨g, 0, none⟩) (n + n') := by
    rcases hSl with hx | ⟨y, hx, hy⟩
    · rw [hx]
      rcases hHl with hz | ⟨z, hz, _⟩
      · exact .inl hz
      · exact .inr (by rw [hz]; simp)
    · refine .inr ?_
      intro e
      rw [hx] at e
      have := hHb y e
      have := b4.size
      omega
  go_wp2_with fail
  refine (into _ AL (n + n') cs nL cL _ _ 0 w10 g hS10 hL dLS (by omega) (by omega) (by omega)).mono ?_
  rintro r w11 ⟨rfl, Z3, hS11, hv3, hg11⟩
  have hL11 := hL.other hg11 dLS
  have hH11 := hH.other hg11 dHS
  have dMS : blk AM nM = none ∨ blk AM nM ≠ blk (some ⟨g, 0, none⟩) (n + n') := by
    rcases dSM with h | h
    · rw [h]
      rcases hM.arr.blk_lt with hz | ⟨z, hz, _⟩
      · exact .inl hz
      · exact .inr (by rw [hz]; simp)
    · exact .inr (fun e => h e.symm)
  have hM11 := hM.other hg11 dMS
  have dqS : blk (some ⟨g, 0, none⟩) (n + n') ≠ some w.heap.size := by
    intro hx
    have := blk_row g _ _ hx
    have := hr.lt
    omega
  have bx11 := bx10.other hg11 dqS
  have hg11' := grown_up hg11 (blk_row g _)
  have G11 := grown_trans G10 hg11'
  rw [val_replicate, val_wd _ n1, Int.pow_zero, Int.one_mul, Int.zero_add, E3.out] at hv3
  clear hS10 bx10 hg11 hg11' G10
  have hT11 := hM11.trim.arr
  rw [hv2] at hT11
  have hTl : (wd (M - L - H)).length ≤ nM := by
    have := wd_len hM11.wf
    rw [hv2, hM11.len] at this; exact this
  have TR := Lib.hid (fun w' (hb : Below w11.heap.size w11 w') => trim AM nM cM Z2 w' (hM11.arr.below hb))
  rw [hv2] at TR
  obtain ⟨j0, f0⟩ : w11.cell? ⟨w.heap.size, 0, none⟩ = some (.int .i64 m) ∧ w11.frozen? ⟨w.heap.size, 0, none⟩ = false := ⟨bx11.cell 0, bx11.free 0⟩
  have bd : Below w11.heap.size w11 w11.drew := (below_self w11).drew
  have INT := Lib.hid (into (some ⟨g, 0, none⟩) AM (n + n') cs _ cM _ _ m w11.drew g (hS11.later bd) (hT11.below bd) (blk_less hTl dMS) (by omega) (by omega) (by omega))
  go_wp2_with fail
  go_region_with (first | (go_at_call 115; refine (TR.out _ (by repeat (first | exact below_self _ | apply Below.drew))).mono ?_; rintro r w' ⟨rfl, rfl⟩) | (go_at_call 141; refine INT.out.mono ?_; rintro r w12 ⟨rfl, Z4, hS12, hv4, hg12⟩))
  all_goals
    have hH12 := (hH11.below bd).other hg12 dHS
    have bx12 := (bx11.later bd).other hg12 dqS
    have G12 := grown_trans (grown_drew G11) (grown_up hg12 (blk_row g _))
    rw [hv3, val_wd (M - L - H) n3, E4.out] at hv4
    obtain ⟨j1, f1⟩ : w12.cell? ⟨w.heap.size, 0, none⟩ = some (.int .i64 m) ∧ w12.frozen? ⟨w.heap.size, 0, none⟩ = false := ⟨bx12.cell 0, bx12.free 0⟩
    have E9 := Lib.hid (show 2 * (m : Int) = ((2 * m : Nat) : Int) by omega)
    have E8 := Lib.hid (show B ^ (2 * m) = B ^ m * B ^ m by rw [Nat.two_mul, Int.pow_add])
    have hm8 : m ≤ 100000000 := by omega
    clear hH11 bx11 G11 hg12 INT TR bd hv3
    go_wp2_with fail
    rw [E9.out]
    refine (into _ AH (n + n') cs nH cH _ _ (2 * m) w12 g hS12 hH12 dHS (by omega) (by omega) (by omega)).mono ?_
    rintro r w13 ⟨rfl, Z5, hS13, hv5, hg13⟩
    rw [hv4, val_wd H n2, E8.out, E5.out, ← HT.out] at hv5
    have G13 := grown_trans G12 (grown_up hg13 (blk_row g _))
    have HV := Lib.hid hv5
    clear hv5 hv4
    go_wp2
    go_end0
    exact ⟨rfl, Z5, hS13, HV.out, G13⟩
end Go.Proofs.YteffemhapnbaeaaGreatDoor
namespace Go.Proofs.YteffemhapnbaeaaGreatDoor
open Go.RowKit Num
set_option maxRecDepth 100000

set_option maxHeartbeats 1000000 in
theorem mul_step (N : Nat) (hN : N + 1 ≤ 100000000) (IH : 24 ≤ N → MulSpec N) : MulSpec (N + 1) := by
  intro A A' n c n' c' xs ys w h h' hn hn'
  have T := Lib.hid (trim A n c xs w h)
  have T' := Lib.hid (trim A' n' c' ys w h')
  have hx := h.trim
  have hy := h'.trim
  have lx := wd_len h.wf
  have ly := wd_len h'.wf
  rw [h.len] at lx
  rw [h'.len] at ly
  have vx := val_wd _ h.val_nonneg
  have vy := val_wd _ h'.val_nonneg
  generalize hX : wd (val xs) = X at *
  generalize hY : wd (val ys) = Y at *
  rw [← vx, ← vy]
  have zx : X.length = 0 → val X = 0 := fun h0 => by rw [List.eq_nil_of_length_eq_zero h0]; rfl
  have zy : Y.length = 0 → val Y = 0 := fun h0 => by rw [List.eq_nil_of_length_eq_zero h0]; rfl
  clear hX hY vx vy h h'
  have cX := hx.cap
  have cY := hy.cap
  have bX := hx.big
  have bY := hy.big
  have aX := hx.apart (Nat.le_refl _)
  have aY := hy.apart (Nat.le_refl _)
  by_cases hsw : X.length < Y.length
  · have d1 : decide ((X.length : Int) < Y.length) = true := by simp; omega
    by_cases h0 : X.length = 0
    · have d2 : ((X.length : Int) == 0) = true := beq_iff_eq.2 (by omega)
      have hz : val X * val Y = 0 := by rw [zx h0]; simp
      rw [hz]
      clear hz
      go_enter Tryz.func83, Tryz.ntmps83
      go_wp2_with fail
      refine T.out.mono ?_; rintro r w' ⟨rfl, rfl⟩
      go_wp2_with fail
      refine T'.out.mono ?_; rintro r w' ⟨rfl, rfl⟩
      go_wp2_with (at_make; refine wp_make rfl _ _ rfl _ _ (Y.length + X.length) rfl rfl ?m1 ?m2 ?m3 ?_)
      case m1 => omega
      case m2 => omega
      case m3 => omega
      intro g w1 hg hrow hb
      subst hg
      go_wp2_with fail
      go_ret
      exact ⟨_, _, _, rfl, by rw [wd_zero (Int.le_refl _)]; exact Own.nil _ _ _ _ (by omega), hb⟩
    · have d2 : ((X.length : Int) == 0) = false := beq_eq_false_iff_ne.2 (by omega)
      by_cases h1 : X.length ≤ 24
      · have d3 : decide ((X.length : Int) ≤ 24) = true := by simp; omega
        go_enter Tryz.func83, Tryz.ntmps83
        go_wp2_with fail
        refine T.out.mono ?_; rintro r w' ⟨rfl, rfl⟩
        go_wp2_with fail
        refine T'.out.mono ?_; rintro r w' ⟨rfl, rfl⟩
        go_wp2_with (at_make; refine wp_make rfl _ _ rfl _ _ (Y.length + X.length) rfl rfl ?m1 ?m2 ?m3 ?_)
        case m1 => omega
        case m2 => omega
        case m3 => omega
        intro g w1 hg hrow hb
        subst hg
        go_wp2_with fail
        refine (mulPlain w.heap.size A' A Y.length c' X.length c Y X w1 _ w.heap.size hrow (hy.below hb) (hx.below hb) aY aX (Nat.le_refl _) (Nat.le_refl _) (by omega) (by omega) (by omega)).mono ?_
        rintro r w2 ⟨rfl, Z, hZ, hR, hv, hG⟩
        have hO := hR.own (n := Y.length + X.length) (c := Y.length + X.length) (Bk := w.heap.size) hZ (Nat.le_refl _) (by omega) (Nat.le_refl _)
        have hb2 : Below w.heap.size w w2 := hb.trans (grown_below hG hb.size (fun k hk => by cases hk; exact Nat.le_refl _))
        have HV := Lib.hid (show val Z = val X * val Y from hv.trans (by first | rfl | exact Int.mul_comm _ _))
        clear hv
        go_wp2_with fail
        refine (trim _ _ _ _ _ hO.arr).mono ?_; rintro r w' ⟨rfl, rfl⟩
        have hT := hO.trim
        rw [HV.out] at hT ⊢
        go_wp2
        go_ret
        exact ⟨_, _, _, rfl, hT, hb2⟩
      · have d3 : decide ((X.length : Int) ≤ 24) = false := by simp; omega
        go_enter Tryz.func83, Tryz.ntmps83
        go_wp2_with fail
        refine T.out.mono ?_; rintro r w' ⟨rfl, rfl⟩
        go_wp2_with fail
        refine T'.out.mono ?_; rintro r w' ⟨rfl, rfl⟩
        go_wp2_with (at_make; refine wp_make rfl _ _ rfl _ _ (Y.length + X.length) rfl rfl ?m1 ?m2 ?m3 ?_)
        case m1 => omega
        case m2 => omega
        case m3 => omega
        intro g w1 hg hrow hb
        subst hg
        go_wp2_with fail
        refine (halves N (by omega) (IH (by omega)) w.heap.size A' A Y.length c' X.length c Y X w1 _ hrow (hy.below hb) (hx.below hb) (Nat.le_refl _) (by omega) (by omega) (by omega) (by omega)).mono ?_
        rintro r w2 ⟨rfl, Z, hO, hv, hG⟩
        have hb2 : Below w.heap.size w w2 := hb.trans (grown_below hG hb.size (fun k hk => by cases hk; exact Nat.le_refl _))
        have HV := Lib.hid (show val Z = val X * val Y from hv.trans (by first | rfl | exact Int.mul_comm _ _))
        clear hv
        go_wp2_with fail
        refine (trim _ _ _ _ _ hO.arr).mono ?_; rintro r w' ⟨rfl, rfl⟩
        have hT := hO.trim
        rw [HV.out] at hT ⊢
        go_wp2
        go_ret
        exact ⟨_, _, _, rfl, hT, hb2⟩
  · have d1 : decide ((X.length : Int) < Y.length) = false := by simp; omega
    by_cases h0 : Y.length = 0
    · have d2 : ((Y.length : Int) == 0) = true := beq_iff_eq.2 (by omega)
      have hz : val X * val Y = 0 := by rw [zy h0]; simp
      rw [hz]
      clear hz
      go_enter Tryz.func83, Tryz.ntmps83
      go_wp2_with fail
      refine T.out.mono ?_; rintro r w' ⟨rfl, rfl⟩
      go_wp2_with fail
      refine T'.out.mono ?_; rintro r w' ⟨rfl, rfl⟩
      go_wp2_with (at_make; refine wp_make rfl _ _ rfl _ _ (X.length + Y.length) rfl rfl ?m1 ?m2 ?m3 ?_)
      case m1 => omega
      case m2 => omega
      case m3 => omega
      intro g w1 hg hrow hb
      subst hg
      go_wp2_with fail
      go_ret
      exact ⟨_, _, _, rfl, by rw [wd_zero (Int.le_refl _)]; exact Own.nil _ _ _ _ (by omega), hb⟩
    · have d2 : ((Y.length : Int) == 0) = false := beq_eq_false_iff_ne.2 (by omega)
      by_cases h1 : Y.length ≤ 24
      · have d3 : decide ((Y.length : Int) ≤ 24) = true := by simp; omega
        go_enter Tryz.func83, Tryz.ntmps83
        go_wp2_with fail
        refine T.out.mono ?_; rintro r w' ⟨rfl, rfl⟩
        go_wp2_with fail
        refine T'.out.mono ?_; rintro r w' ⟨rfl, rfl⟩
        go_wp2_with (at_make; refine wp_make rfl _ _ rfl _ _ (X.length + Y.length) rfl rfl ?m1 ?m2 ?m3 ?_)
        case m1 => omega
        case m2 => omega
        case m3 => omega
        intro g w1 hg hrow hb
        subst hg
        go_wp2_with fail
        refine (mulPlain w.heap.size A A' X.length c Y.length c' X Y w1 _ w.heap.size hrow (hx.below hb) (hy.below hb) aX aY (Nat.le_refl _) (Nat.le_refl _) (by omega) (by omega) (by omega)).mono ?_
        rintro r w2 ⟨rfl, Z, hZ, hR, hv, hG⟩
        have hO := hR.own (n := X.length + Y.length) (c := X.length + Y.length) (Bk := w.heap.size) hZ (Nat.le_refl _) (by omega) (Nat.le_refl _)
        have hb2 : Below w.heap.size w w2 := hb.trans (grown_below hG hb.size (fun k hk => by cases hk; exact Nat.le_refl _))
        have HV := Lib.hid (show val Z = val X * val Y from hv.trans (by first | rfl | exact Int.mul_comm _ _))
        clear hv
        go_wp2_with fail
        refine (trim _ _ _ _ _ hO.arr).mono ?_; rintro r w' ⟨rfl, rfl⟩
        have hT := hO.trim
        rw [HV.out] at hT ⊢
        go_wp2
        go_ret
        exact ⟨_, _, _, rfl, hT, hb2⟩
      · have d3 : decide ((Y.length : Int) ≤ 24) = false := by simp; omega
        go_enter Tryz.func83, Tryz.ntmps83
        go_wp2_with fail
        refine T.out.mono ?_; rintro r w' ⟨rfl, rfl⟩
        go_wp2_with fail
        refine T'.out.mono ?_; rintro r w' ⟨rfl, rfl⟩
        go_wp2_with (at_make; refine wp_make rfl _ _ rfl _ _ (X.length + Y.length) rfl rfl ?m1 ?m2 ?m3 ?_)
        case m1 => omega
        case m2 => omega
        case m3 => omega
        intro g w1 hg hrow hb
        subst hg
        go_wp2_with fail
        refine (halves N (by omega) (IH (by omega)) w.heap.size A A' X.length c Y.length c' X Y w1 _ hrow (hx.below hb) (hy.below hb) (Nat.le_refl _) (by omega) (by omega) (by omega) (by omega)).mono ?_
        rintro r w2 ⟨rfl, Z, hO, hv, hG⟩
        have hb2 : Below w.heap.size w w2 := hb.trans (grown_below hG hb.size (fun k hk => by cases hk; exact Nat.le_refl _))
        have HV := Lib.hid (show val Z = val X * val Y from hv.trans (by first | rfl | exact Int.mul_comm _ _))
        clear hv
        go_wp2_with fail
        refine (trim _ _ _ _ _ hO.arr).mono ?_; rintro r w' ⟨rfl, rfl⟩
        have hT := hO.trim
        rw [HV.out] at hT ⊢
        go_wp2
        go_ret
        exact ⟨_, _, _, rfl, hT, hb2⟩
theorem mul_all : ∀ N, N ≤ 100000000 → MulSpec N
  | 0, _ => by
    intro A A' n c n' c' xs ys w h h' hn hn'
    exact mul_step 0 (by omega) (fun h => absurd h (by omega)) A A' n c n' c' xs ys w h h' (by omega) (by omega)
  | N + 1, h => mul_step N h (fun _ => mul_all N (by omega))
theorem mul (A A' : Option Addr) (n c n' c' : Nat) (xs ys : List Int) (w : World) (h : Arr w A n c xs) (h' : Arr w A' n' c' ys) (hn : n ≤ 100000000) (hn' : n' ≤ 100000000) :
    Calls Tryz.prog 83 #[.slice A n c, .slice A' n' c'] w fun e w' => ∃ A2 n2 c2, e = .returned (.slice A2 n2 c2) ∧ Own w' w.heap.size A2 n2 c2 (wd (val xs * val ys)) ∧ Below w.heap.size w w' :=
  mul_all 100000000 (Nat.le_refl _) A A' n c n' c' xs ys w h h' hn hn'
end Go.Proofs.YteffemhapnbaeaaGreatDoor
