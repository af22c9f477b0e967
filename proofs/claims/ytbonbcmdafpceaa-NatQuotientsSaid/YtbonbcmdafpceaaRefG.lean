/- Digits by a digit; a digit that isn't too great. -/
import Derived.Test.YtbonbcmdafpceaaRefF
import Derived.Test.YtbonbcmdafpceaaRefC
namespace Go.Proofs.Ytbonbcmdafpceaa
open Go.RowKit Num
set_option maxRecDepth 100000

theorem times_step {S Y : List Int} {i : Nat} {cy d n : Int} (hl : S.length = i) (h : Dig.val S + cy * Dig.B ^ i = Dig.val (Y.take i) * d) (hn : n = Y.getD i 0 * d + cy) :
    Dig.val (S ++ [n % 65536]) + n / 65536 * Dig.B ^ (i + 1) = Dig.val (Y.take (i + 1)) * d := by
  rw [dig_snoc, hl, dig_take, Int.pow_succ]
  have e : n = n % 65536 + Dig.B * (n / 65536) := by rw [Dig.B_eq]; omega
  generalize Dig.B ^ i = p at *
  generalize n % 65536 = a at *
  generalize n / 65536 = b at *
  generalize Y.getD i 0 = y at *
  have e2 : p * a + b * (p * Dig.B) = p * n := by rw [e]; grind
  have e3 : p * n = p * (y * d) + cy * p := by rw [hn]; grind
  have e4 : (Dig.val (Y.take i) + p * y) * d = Dig.val (Y.take i) * d + p * (y * d) := by grind
  omega
theorem times_last {S Y : List Int} {i : Nat} {cy d : Int} (hl : S.length = i) (h : Dig.val S + cy * Dig.B ^ i = Dig.val (Y.take i) * d) (hi : Y.length ≤ i) : Dig.val (S ++ [cy]) = Dig.val Y * d := by
  rw [List.take_of_length_le hi] at h
  rw [dig_snoc, hl, ← h, Int.mul_comm]
theorem times (A : Option Addr) (n c : Nat) (y d : Int) (w : World) (ny : 0 ≤ y) (hd0 : 0 ≤ d) (hd : d ≤ 65536) (a : Arr w A n c (Dig.wd y)) (hn : n ≤ 1000000000) :
    Calls Try.prog 53 #[.slice A n c, .int .u64 d] w fun e w' => ∃ A' n' c', e = .returned (.slice A' n' c') ∧ Own w' w.heap.size A' n' c' (Dig.wd (y * d)) ∧ Below w.heap.size w w' := by
  have wY := Dig.wf_wd _ ny
  have vY := Dig.val_wd _ ny
  generalize hYe : Dig.wd y = Y at *
  clear hYe
  rw [← vY]
  clear vY ny
  obtain rfl := a.len
  have cap1 := a.cap
  have cap2 := a.big
  go_enter Try.func53, Try.ntmps53
  go_wp2
  go_loopw [5, 6, 7] (fun vs vc vi wr => ∃ (i : Nat) (cy : Int) (S : List Int), i ≤ Y.length ∧ vi = .int .i64 i ∧ vc = .int .u64 cy ∧ 0 ≤ cy ∧ cy ≤ 65535 ∧ S.length = i ∧ Dig.Wf S ∧ Hid (Dig.val S + cy * Dig.B ^ i = Dig.val (Y.take i) * d) ∧ wr.ownsRow w.heap.size 22 1 vs i (cellsOf S) ∧ Below w.heap.size w wr) (fun _ _ vi _ => Y.length + 1 - (intOf vi).toNat)
  case atStart => exact ⟨0, 0, [], Nat.zero_le _, rfl, rfl, by omega, by omega, rfl, Dig.wf_nil, by show _ = _; simp [Dig.val], owns_nil w _, below_self w⟩
  case round =>
    obtain ⟨i, cy, S, hi, rfl, rfl, hc0, hc1, hlS, hwS, hv, ho, hW⟩ := hrel
    by_cases hx : i < Y.length
    · have yg := wY.getD i
      have hst := fun n hn => times_step (n := n) hlS hv.out hn
      have hwn : ∀ n : Int, Dig.Wf (S ++ [n % 65536]) := fun n => Dig.wf_append.2 ⟨hwS, Dig.wf_cons.2 ⟨by omega, Dig.wf_nil⟩⟩
      obtain ⟨b, o, rfl, hlt, hc⟩ := (a.below hW).mem (by omega)
      have k1 := hc i hx
      clear hc
      generalize Y.getD i 0 = x at *
      have p1 : x * d ≤ 65535 * d := Int.mul_le_mul_of_nonneg_right (by omega) hd0
      have p2 : 0 ≤ x * d := Int.mul_nonneg yg.1 hd0
      have q1 := u64_in (x := x * d) p2 (by omega)
      have q2 := u64_in (x := x * d + cy) (by omega) (by omega)
      have HST := Lib.hid (hst (x * d + cy) rfl)
      have HWN := Lib.hid (hwn (x * d + cy))
      have t1 : (x * d + cy).tmod 65536 = (x * d + cy) % 65536 := Int.tmod_eq_emod_of_nonneg (by omega)
      have t2 : (x * d + cy).tdiv 65536 = (x * d + cy) / 65536 := Int.tdiv_eq_ediv_of_nonneg (by omega)
      have u1 : 0 ≤ (x * d + cy) / 65536 ∧ (x * d + cy) / 65536 ≤ 65535 := by omega
      have u2 : 0 ≤ (x * d + cy) % 65536 ∧ (x * d + cy) % 65536 < 65536 := by omega
      clear hst hwn hv
      go_wp2_with (at_builtin; refine wp_append rfl _ _ rfl w.heap.size _ i S rfl (ho.alloc _) _ 1 1 [(x * d + cy) % 65536] rfl (arr_one rfl ((x * d + cy) % 65536) (by omega) (by omega)) (i + 1) rfl (by omega) (by have := hW.size; simp; omega) ?_)
      intro v4 w4 ho4 hg4
      have hb4 := own_push ho hW hg4
      have HO := Lib.hid ho4
      clear ho4
      go_wp2
      exact ⟨⟨i + 1, _, _, by omega, by go_num, rfl, u1.1, u1.2, by simp; omega, HWN.out, HST.out, HO.out, hb4⟩, by simp only [intOf]; omega⟩
    · obtain rfl : i = Y.length := by omega
      have hl := times_last hlS hv.out (Nat.le_refl _)
      have HL := Lib.hid hl
      have hw5 : Dig.Wf (S ++ [cy]) := Dig.wf_append.2 ⟨hwS, Dig.wf_cons.2 ⟨by omega, Dig.wf_nil⟩⟩
      clear hl hv
      go_wp2_with (at_builtin; refine wp_append rfl _ _ rfl w.heap.size _ Y.length S rfl (ho.alloc _) _ 1 1 [cy] rfl (arr_one rfl cy (by omega) (by omega)) (Y.length + 1) rfl (by omega) (by have := hW.size; simp; omega) ?_)
      intro v4 w4 ho4 hg4
      have hb4 := own_push ho hW hg4
      obtain ⟨A5, c5, rfl, hO⟩ := own_of_owns ho4 (dig_wf hw5)
      have C := Lib.hid (cut A5 _ c5 _ w4 hO.arr hw5)
      have hT := hO.take (Dig.wd (Dig.val (S ++ [cy]))).length (by have := Dig.wd_len hw5; rw [hO.len] at this; exact this)
      rw [Dig.wd_take hw5, HL.out] at hT
      rw [HL.out] at C
      clear ho4 hO
      go_wp2_with fail
      refine C.out.mono ?_; rintro r w' ⟨rfl, rfl⟩
      go_wp2
      go_ret
      exact ⟨A5, _, c5, rfl, hT, hb4⟩
/-- The highest three digits of what is left, from the divisor's length on. -/
def ovf (L : List Int) (n : Nat) : Nat → Int
  | 0 => 0
  | j + 1 => ovf L n j * 65536 + (if j ≤ n then L.getD (n - j) 0 else 0)
theorem ovf_range {L : List Int} (h : Dig.Wf L) (n : Nat) : (0 ≤ ovf L n 0 ∧ ovf L n 0 < 1) ∧ (0 ≤ ovf L n 1 ∧ ovf L n 1 < 65536) ∧ (0 ≤ ovf L n 2 ∧ ovf L n 2 < 4294967296) ∧ (0 ≤ ovf L n 3 ∧ ovf L n 3 < 281474976710656) := by
  have a := h.getD (n - 0)
  have b := h.getD (n - 1)
  have c := h.getD (n - 2)
  simp only [ovf]
  split <;> split <;> split <;> omega
theorem dig_three_at {L : List Int} (h : Dig.Wf L) (n : Nat) (hn : 2 ≤ n) : ovf L n 3 * Dig.B ^ (n - 2) ≤ Dig.val L := by
  have e : ∀ i, Dig.val (L.drop i) = L.getD i 0 + Dig.B * Dig.val (L.drop (i + 1)) := fun i => by
    by_cases hi : i < L.length
    · rw [List.drop_eq_getElem_cons hi, Dig.val_cons, List.getD_eq_getElem?_getD, List.getElem?_eq_getElem hi]; rfl
    · rw [List.drop_eq_nil_of_le (by omega), List.drop_eq_nil_of_le (by omega), List.getD_eq_getElem?_getD, List.getElem?_eq_none (by omega)]; rfl
  have e0 : Dig.B ^ (n - 2) * Dig.val (L.drop (n - 2)) ≤ Dig.val L := by
    rw [Dig.val_drop h]
    exact Int.mul_ediv_self_le (by have := Dig.B_pow_pos (n - 2); omega)
  have e1 := e (n - 2)
  have e2 := e (n - 1)
  have e3 := e n
  rw [show n - 2 + 1 = n - 1 from by omega] at e1
  rw [show n - 1 + 1 = n from by omega] at e2
  have h4 := Dig.val_nonneg (h.drop (n + 1))
  have e5 : ovf L n 3 ≤ Dig.val (L.drop (n - 2)) := by
    simp only [ovf]
    rw [if_pos (by omega), if_pos (by omega), if_pos (by omega), Nat.sub_zero]
    rw [Dig.B_eq] at *
    omega
  have := Int.mul_le_mul_of_nonneg_left e5 (Int.le_of_lt (Dig.B_pow_pos (n - 2)))
  rw [Int.mul_comm (ovf L n 3)]
  omega
theorem guess_good {L Y : List Int} {n : Nat} (hL : Dig.Wf L) (hY : Dig.Wf Y) (hn : Y.length = n) (h1 : 1 ≤ n) :
    ovf L n 3 / (Y.getD (n - 1) 0 * 65536 + (if 2 ≤ n then Y.getD (n - 2) 0 else 0) + 1) * Dig.val Y ≤ Dig.val L := by
  have a1 := hY.getD (n - 1)
  have a2 := hY.getD (n - 2)
  have o3 := (ovf_range hL n).2.2.2
  by_cases h2 : 2 ≤ n
  · rw [if_pos h2]
    have h3 := dig_three_at hL n h2
    have hy : Dig.val Y < (Y.getD (n - 1) 0 * 65536 + Y.getD (n - 2) 0 + 1) * Dig.B ^ (n - 2) := by
      have e1 := Dig.val_take_drop Y (n - 2) (by omega)
      have e2 : Y.drop (n - 2) = [Y.getD (n - 2) 0, Y.getD (n - 1) 0] := by
        rw [List.drop_eq_getElem_cons (by omega), show n - 2 + 1 = n - 1 from by omega, List.drop_eq_getElem_cons (by omega), List.drop_eq_nil_of_le (by omega)]
        simp only [List.getD_eq_getElem?_getD, List.getElem?_eq_getElem (show n - 2 < Y.length by omega), List.getElem?_eq_getElem (show n - 1 < Y.length by omega)]
        rfl
      have e3 := Dig.val_lt (hY.take (n - 2))
      rw [List.length_take, Nat.min_eq_left (by omega)] at e3
      rw [e1, e2]
      simp only [Dig.val]
      have e4 : (Y.getD (n - 1) 0 * 65536 + Y.getD (n - 2) 0 + 1) * Dig.B ^ (n - 2) = Dig.B ^ (n - 2) * (Y.getD (n - 2) 0 + Dig.B * (Y.getD (n - 1) 0 + Dig.B * 0)) + Dig.B ^ (n - 2) := by rw [Dig.B_eq]; grind
      omega
    have ht : 0 < Y.getD (n - 1) 0 * 65536 + Y.getD (n - 2) 0 + 1 := by omega
    generalize Y.getD (n - 1) 0 * 65536 + Y.getD (n - 2) 0 + 1 = t at *
    have q0 : 0 ≤ ovf L n 3 / t := Int.ediv_nonneg o3.1 (by omega)
    have q1 := Int.ediv_mul_le (ovf L n 3) (b := t) (by omega)
    have m1 : ovf L n 3 / t * Dig.val Y ≤ ovf L n 3 / t * (t * Dig.B ^ (n - 2)) := Int.mul_le_mul_of_nonneg_left (by omega) q0
    have m2 : ovf L n 3 / t * t * Dig.B ^ (n - 2) ≤ ovf L n 3 * Dig.B ^ (n - 2) := Int.mul_le_mul_of_nonneg_right q1 (Int.le_of_lt (Dig.B_pow_pos _))
    rw [Int.mul_assoc] at m2
    omega
  · rw [if_neg h2]
    obtain rfl : n = 1 := by omega
    have e1 : Dig.val Y = Y.getD 0 0 := by
      obtain ⟨y, rfl⟩ := List.length_eq_one_iff.1 hn
      simp [Dig.val]
    have e2 : ovf L 1 3 = (L.getD 1 0 * 65536 + L.getD 0 0) * 65536 := by simp [ovf]
    have e3 : L.getD 1 0 * 65536 + L.getD 0 0 ≤ Dig.val L := by
      rcases L with _ | ⟨x, _ | ⟨z, L⟩⟩
      · simp [Dig.val]
      · simp [Dig.val]
      · have := Dig.val_nonneg (Dig.wf_cons.1 (Dig.wf_cons.1 hL).2).2
        simp only [Dig.val, List.getD_cons_zero, List.getD_cons_succ, Dig.B_eq]
        omega
    rw [e1, e2]
    simp only [Nat.sub_self] at *
    generalize Y.getD 0 0 = y at *
    rw [e2] at o3
    generalize L.getD 1 0 * 65536 + L.getD 0 0 = l at *
    have q0 : 0 ≤ l * 65536 / (y * 65536 + 0 + 1) := Int.ediv_nonneg o3.1 (by omega)
    have q1 := Int.ediv_mul_le (l * 65536) (b := y * 65536 + 0 + 1) (by omega)
    generalize l * 65536 / (y * 65536 + 0 + 1) = q at *
    have e5 : q * (y * 65536 + 0 + 1) = q * y * 65536 + q := by grind
    omega
theorem guess_min {q y l : Int} (hy : 0 ≤ y) (hq : 0 ≤ q) (h : q * y ≤ l) : 0 ≤ min q 65535 ∧ min q 65535 ≤ 65535 ∧ min q 65535 * y ≤ l := by
  have : min q 65535 * y ≤ q * y := Int.mul_le_mul_of_nonneg_right (by omega) hy
  omega
set_option maxHeartbeats 1000000 in
theorem guess (A1 A2 : Option Addr) (n1 c1 n2 c2 : Nat) (l y : Int) (w : World) (nl : 0 ≤ l) (hy : 0 < y) (a1 : Arr w A1 n1 c1 (Dig.wd l)) (a2 : Arr w A2 n2 c2 (Dig.wd y)) (hn : n1 ≤ 1000000000) (hn2 : n2 ≤ 1000000000) :
    Calls Try.prog 51 #[.slice A1 n1 c1, .slice A2 n2 c2] w fun e w' => ∃ g : Int, e = .returned (.int .u64 g) ∧ 0 ≤ g ∧ g ≤ 65535 ∧ g * y ≤ l ∧ w = w' := by
  have wX := Dig.wf_wd _ nl
  have wY := Dig.wf_wd y (by omega)
  have vX := Dig.val_wd _ nl
  have vY := Dig.val_wd y (by omega)
  have hY1 : 0 < (Dig.wd y).length := List.length_pos_iff.2 (Dig.wd_ne_nil hy)
  generalize Dig.wd l = X at *
  generalize Dig.wd y = Y at *
  obtain rfl := a1.len
  obtain rfl := a2.len
  have hg := guess_good (n := Y.length) wX wY rfl hY1
  rw [vX, vY] at hg
  have HO := Lib.hid (ovf_range wX Y.length)
  have o3 := (ovf_range wX Y.length).2.2.2
  have t1 := wY.getD (Y.length - 1)
  have t2 := wY.getD (Y.length - 2)
  have hV : ∀ j : Nat, ovf X Y.length (j + 1) = ovf X Y.length j * 65536 + (if j ≤ Y.length then X.getD (Y.length - j) 0 else 0) := fun j => rfl
  have HV := Lib.hid hV
  clear hV
  have hX0 : ∀ k, X.length ≤ k → X.getD k 0 = 0 := fun k hk => by rw [List.getD_eq_getElem?_getD, List.getElem?_eq_none hk]; rfl
  have HX0 := Lib.hid hX0
  have HWX := Lib.hid wX
  obtain ⟨b2, o2, rfl, hlt2, hc2⟩ := a2.mem (by omega)
  have k1 := hc2 (Y.length - 1) (by omega)
  have k2 : 2 ≤ Y.length → w.cell? ⟨b2, o2 + (Y.length - 2), none⟩ = some (.int .u64 (Y.getD (Y.length - 2) 0)) := fun h => hc2 _ (by omega)
  have K2 := Lib.hid k2
  clear hc2 vX vY hX0 k2 wX wY
  generalize Y.getD (Y.length - 1) 0 = yt at *
  generalize Y.getD (Y.length - 2) 0 = yn at *
  by_cases h2 : 2 ≤ Y.length
  · have k2 := K2.out h2
    rw [if_pos h2] at hg
    have tp : 0 < yt * 65536 + yn + 1 := by omega
    have q0 : 0 ≤ ovf X Y.length 3 / (yt * 65536 + yn + 1) := Int.ediv_nonneg o3.1 (by omega)
    have HG := Lib.hid (guess_min (by omega) q0 hg)
    have td : (ovf X Y.length 3).tdiv (yt * 65536 + yn + 1) = ovf X Y.length 3 / (yt * 65536 + yn + 1) := Int.tdiv_eq_ediv_of_nonneg o3.1
    have qw := u64_in q0 (Int.lt_of_le_of_lt (Int.ediv_le_self _ o3.1) (by omega))
    have dd : decide ((Y.length : Int) > 1) = true := by simp; omega
    clear hg
    go_enter Try.func51, Try.ntmps51
    go_wp2_with fail
    (go_loop [7, 8] (fun vo vi => ∃ j : Nat, j ≤ 3 ∧ vi = .int .i64 ((Y.length : Int) - j) ∧ vo = .int .u64 (ovf X Y.length j)) (fun _ vi => (intOf vi - Y.length + 4).toNat); (case atStart => exact ⟨0, by omega, by simp, rfl⟩); (case round => obtain ⟨j, hj, rfl, rfl⟩ := hrel; by_cases hj3 : j < 3; (· have hov : 0 ≤ ovf X Y.length j ∧ ovf X Y.length j < 4294967296 := (by have := HO.out; have hj4 : j = 0 ∨ j = 1 ∨ j = 2 := (by omega); rcases hj4 with rfl | rfl | rfl <;> omega); have hnx := HV.out j; by_cases hjn : j ≤ Y.length; (· rw [if_pos hjn] at hnx; obtain ⟨k, hk⟩ : ∃ k : Nat, Y.length - j = k := ⟨_, rfl⟩; have hki : (Y.length : Int) - j = (k : Int) := (by omega); rw [hk] at hnx; rw [hki]; have xg := HWX.out.getD k; by_cases hkx : k < X.length; (· obtain ⟨b, o, rfl, hlt, hc⟩ := a1.mem (by omega); have c1' := hc k hkx; have dk : decide ((k : Int) < X.length) = true := (by simp; omega); generalize X.getD k 0 = x at *; have HN := Lib.hid hnx; clear hc hnx hk; generalize ovf X Y.length j = ov at *; go_wp2_with fail; exact ⟨⟨j + 1, by omega, by (refine congrArg _ ?_; omega), by rw [HN.out]⟩, by simp only [intOf]; omega⟩); (· have dk : decide ((k : Int) < X.length) = false := (by simp; omega); rw [HX0.out k (by omega)] at hnx; have HN := Lib.hid hnx; clear hnx hk; generalize ovf X Y.length j = ov at *; go_wp2_with fail; exact ⟨⟨j + 1, by omega, by go_num, by (rw [HN.out]; try simp)⟩, by simp only [intOf]; omega⟩)); (· rw [if_neg hjn] at hnx; have dk : decide ((Y.length : Int) - j ≥ 0) = false := (decide_eq_false (by omega)); have HN := Lib.hid hnx; clear hnx; generalize ovf X Y.length j = ov at *; go_wp2_with fail; all_goals exact ⟨⟨j + 1, by omega, by (first | rfl | go_num | (refine congrArg _ ?_; omega)), by (rw [HN.out]; try simp)⟩, by simp only [intOf]; omega⟩)); (· obtain rfl : j = 3 := (by omega); generalize ovf X Y.length 3 = o3v at *; go_wp2_with fail; go_ret; exact ⟨_, rfl, HG.out.1, HG.out.2.1, HG.out.2.2, rfl⟩)))
  · have dd : decide ((Y.length : Int) > 1) = false := by simp; omega
    rw [if_neg h2] at hg
    have tp : 0 < yt * 65536 + 1 := by omega
    have e0 : yt * 65536 + 0 + 1 = yt * 65536 + 1 := by omega
    rw [e0] at hg
    have q0 : 0 ≤ ovf X Y.length 3 / (yt * 65536 + 1) := Int.ediv_nonneg o3.1 (by omega)
    have HG := Lib.hid (guess_min (by omega) q0 hg)
    have td : (ovf X Y.length 3).tdiv (yt * 65536 + 1) = ovf X Y.length 3 / (yt * 65536 + 1) := Int.tdiv_eq_ediv_of_nonneg o3.1
    have qw := u64_in q0 (Int.lt_of_le_of_lt (Int.ediv_le_self _ o3.1) (by omega))
    clear hg e0
    go_enter Try.func51, Try.ntmps51
    go_wp2_with fail
    (go_loop [7, 8] (fun vo vi => ∃ j : Nat, j ≤ 3 ∧ vi = .int .i64 ((Y.length : Int) - j) ∧ vo = .int .u64 (ovf X Y.length j)) (fun _ vi => (intOf vi - Y.length + 4).toNat); (case atStart => exact ⟨0, by omega, by simp, rfl⟩); (case round => obtain ⟨j, hj, rfl, rfl⟩ := hrel; by_cases hj3 : j < 3; (· have hov : 0 ≤ ovf X Y.length j ∧ ovf X Y.length j < 4294967296 := (by have := HO.out; have hj4 : j = 0 ∨ j = 1 ∨ j = 2 := (by omega); rcases hj4 with rfl | rfl | rfl <;> omega); have hnx := HV.out j; by_cases hjn : j ≤ Y.length; (· rw [if_pos hjn] at hnx; obtain ⟨k, hk⟩ : ∃ k : Nat, Y.length - j = k := ⟨_, rfl⟩; have hki : (Y.length : Int) - j = (k : Int) := (by omega); rw [hk] at hnx; rw [hki]; have xg := HWX.out.getD k; by_cases hkx : k < X.length; (· obtain ⟨b, o, rfl, hlt, hc⟩ := a1.mem (by omega); have c1' := hc k hkx; have dk : decide ((k : Int) < X.length) = true := (by simp; omega); generalize X.getD k 0 = x at *; have HN := Lib.hid hnx; clear hc hnx hk; generalize ovf X Y.length j = ov at *; go_wp2_with fail; exact ⟨⟨j + 1, by omega, by (refine congrArg _ ?_; omega), by rw [HN.out]⟩, by simp only [intOf]; omega⟩); (· have dk : decide ((k : Int) < X.length) = false := (by simp; omega); rw [HX0.out k (by omega)] at hnx; have HN := Lib.hid hnx; clear hnx hk; generalize ovf X Y.length j = ov at *; go_wp2_with fail; exact ⟨⟨j + 1, by omega, by go_num, by (rw [HN.out]; try simp)⟩, by simp only [intOf]; omega⟩)); (· rw [if_neg hjn] at hnx; have dk : decide ((Y.length : Int) - j ≥ 0) = false := (decide_eq_false (by omega)); have HN := Lib.hid hnx; clear hnx; generalize ovf X Y.length j = ov at *; go_wp2_with fail; all_goals exact ⟨⟨j + 1, by omega, by (first | rfl | go_num | (refine congrArg _ ?_; omega)), by (rw [HN.out]; try simp)⟩, by simp only [intOf]; omega⟩)); (· obtain rfl : j = 3 := (by omega); generalize ovf X Y.length 3 = o3v at *; go_wp2_with fail; go_ret; exact ⟨_, rfl, HG.out.1, HG.out.2.1, HG.out.2.2, rfl⟩)))
end Go.Proofs.Ytbonbcmdafpceaa
