/- The document's difference. -/
import Derived.Test.YtlmojkknlkfloaaDoorMH
import Derived.Test.YtlmojkknlkfloaaDoorMC
import Derived.Test.YtlmojkknlkfloaaDoorMF
namespace Go.Proofs.YtlmojkknlkfloaaDoor
open Go.RowKit Num
set_option maxRecDepth 100000

theorem sub_step {S X Y : List Int} {i : Nat} {bw n : Int} (hl : S.length = i) (h : Dig.val S - bw * Dig.B ^ i = Dig.val (X.take i) - Dig.val (Y.take i)) (hn : n = X.getD i 0 + 65536 - bw - Y.getD i 0) :
    Dig.val (S ++ [n % 65536]) - (1 - n / 65536) * Dig.B ^ (i + 1) = Dig.val (X.take (i + 1)) - Dig.val (Y.take (i + 1)) := by
  rw [dig_snoc, hl, dig_take, dig_take, Int.pow_succ]
  have e : n = n % 65536 + Dig.B * (n / 65536) := by rw [Dig.B_eq]; omega
  generalize Dig.B ^ i = p at *
  generalize X.getD i 0 = x at *
  generalize Y.getD i 0 = y at *
  generalize n % 65536 = a at *
  generalize n / 65536 = b at *
  have e2 : p * a - (1 - b) * (p * Dig.B) = p * n - p * Dig.B := by rw [e]; grind
  have e3 : p * n = p * x + p * 65536 - p * bw - p * y := by rw [hn]; grind
  have e4 : bw * p = p * bw := Int.mul_comm _ _
  have e5 : p * Dig.B = p * 65536 := rfl
  omega
theorem sub_last {S X Y : List Int} {i : Nat} {bw : Int} (hw : Dig.Wf S) (hl : S.length = i) (h : Dig.val S - bw * Dig.B ^ i = Dig.val (X.take i) - Dig.val (Y.take i)) (hx : X.length ≤ i) (hy : Y.length ≤ i) (hle : Dig.val Y ≤ Dig.val X) (h0 : 0 ≤ bw) :
    Dig.val S = Dig.val X - Dig.val Y := by
  rw [List.take_of_length_le hx, List.take_of_length_le hy] at h
  have h1 := Dig.val_lt hw
  rw [hl] at h1
  by_cases hb : bw = 0
  · subst hb; omega
  · have := Int.mul_le_mul_of_nonneg_right (show 1 ≤ bw by omega) (Int.le_of_lt (Dig.B_pow_pos i))
    omega
set_option maxHeartbeats 1000000 in
theorem minus (A1 A2 : Option Addr) (n1 c1 n2 c2 : Nat) (x y : Int) (w : World) (nx : 0 ≤ x) (ny : 0 ≤ y) (hyx : y ≤ x) (a1 : Arr w A1 n1 c1 (Dig.wd x)) (a2 : Arr w A2 n2 c2 (Dig.wd y)) (hn : n1 ≤ 1000000000) :
    Calls Tryd.prog 140 #[.slice A1 n1 c1, .slice A2 n2 c2] w fun e w' => ∃ A n c, e = .returned (.slice A n c) ∧ Own w' w.heap.size A n c (Dig.wd (x - y)) ∧ Below w.heap.size w w' := by
  have wX := Dig.wf_wd _ nx
  have wY := Dig.wf_wd _ ny
  have vX := Dig.val_wd _ nx
  have vY := Dig.val_wd _ ny
  have hll : (Dig.wd y).length ≤ (Dig.wd x).length := Dig.wd_length_le ny (Int.lt_of_le_of_lt hyx (Dig.lt_pow_of_wd_length nx (Nat.le_refl _)))
  generalize hXe : Dig.wd x = X at *
  generalize hYe : Dig.wd y = Y at *
  clear hXe hYe
  obtain rfl := a1.len
  obtain rfl := a2.len
  have hxy : Dig.val Y ≤ Dig.val X := by rw [vX, vY]; exact hyx
  rw [← vX, ← vY]
  clear vX vY nx ny hyx
  have cap1 := a1.cap
  have cap2 := a1.big
  have cap3 := a2.cap
  have cap4 := a2.big
  go_enter Tryd.func140, Tryd.ntmps140
  go_wp2
  go_loopw [5, 6, 7] (fun vs vc vi wr => ∃ (i : Nat) (cy : Int) (S : List Int), i ≤ X.length ∧ vi = .int .i64 i ∧ vc = .int .u64 cy ∧ 0 ≤ cy ∧ cy ≤ 1 ∧ S.length = i ∧ Dig.Wf S ∧ Hid (Dig.val S - cy * Dig.B ^ i = Dig.val (X.take i) - Dig.val (Y.take i)) ∧ wr.ownsRow w.heap.size 27 1 vs i (cellsOf S) ∧ Below w.heap.size w wr) (fun _ _ vi _ => X.length + 1 - (intOf vi).toNat)
  case atStart => exact ⟨0, 0, [], Nat.zero_le _, rfl, rfl, by omega, by omega, rfl, Dig.wf_nil, by show _ = _; simp [Dig.val], owns_nil w _, below_self w⟩
  case round =>
    obtain ⟨i, cy, S, hi, rfl, rfl, hc0, hc1, hlS, hwS, hv, ho, hW⟩ := hrel
    have xg := wX.getD i
    have yg := wY.getD i
    have hst := fun n hn => sub_step (n := n) hlS hv.out hn
    have zy : ¬ i < Y.length → Y.getD i 0 = 0 := fun hh => by rw [List.getD_eq_getElem?_getD, List.getElem?_eq_none (by omega)]; rfl
    have hwn : ∀ n : Int, Dig.Wf (S ++ [n % 65536]) := fun n => Dig.wf_append.2 ⟨hwS, Dig.wf_cons.2 ⟨by omega, Dig.wf_nil⟩⟩
    have a1' := a1.below hW
    have a2' := a2.below hW
    by_cases hx : i < X.length
    · obtain ⟨b, o, rfl, hlt, hc⟩ := a1'.mem (by omega)
      have k1 := hc i hx
      have d1 : decide ((i : Int) < X.length) = true := by simp; omega
      clear hc
      by_cases hy : i < Y.length
      · obtain ⟨b', o', rfl, hlt', hc'⟩ := a2'.mem (by omega)
        have k2 := hc' i hy
        have d2 : decide ((i : Int) < Y.length) = true := by simp; omega
        clear hc'
        generalize X.getD i 0 = x at *
        generalize Y.getD i 0 = y at *
        (have HST := Lib.hid (hst (x + 65536 - cy - y) (by omega)); have HWN := Lib.hid (hwn (x + 65536 - cy - y)); have t1 : (x + 65536 - cy - y).tmod 65536 = (x + 65536 - cy - y) % 65536 := Int.tmod_eq_emod_of_nonneg (by omega); have t2 : (x + 65536 - cy - y).tdiv 65536 = (x + 65536 - cy - y) / 65536 := Int.tdiv_eq_ediv_of_nonneg (by omega); clear hst hwn hv zy; go_wp2_with (at_builtin; refine wp_append rfl _ _ rfl w.heap.size _ i S rfl (ho.alloc _) _ 1 1 [(x + 65536 - cy - y) % 65536] rfl (arr_one rfl ((x + 65536 - cy - y) % 65536) (by omega) (by omega)) (i + 1) rfl (by omega) (by have := hW.size; simp; omega) ?_); intro v4 w4 ho4 hg4; have hb4 := own_push ho hW hg4; have HO := Lib.hid ho4; clear ho4; go_wp2; exact ⟨⟨i + 1, _, _, by omega, by go_num, rfl, by omega, by omega, by simp; omega, HWN.out, HST.out, HO.out, hb4⟩, by simp only [intOf]; omega⟩)
      · have d2 : decide ((i : Int) < Y.length) = false := by simp; omega
        have y0 := zy hy
        generalize X.getD i 0 = x at *
        generalize Y.getD i 0 = y at *
        subst y0
        (have HST := Lib.hid (hst (x + 65536 - cy) (by omega)); have HWN := Lib.hid (hwn (x + 65536 - cy)); have t1 : (x + 65536 - cy).tmod 65536 = (x + 65536 - cy) % 65536 := Int.tmod_eq_emod_of_nonneg (by omega); have t2 : (x + 65536 - cy).tdiv 65536 = (x + 65536 - cy) / 65536 := Int.tdiv_eq_ediv_of_nonneg (by omega); clear hst hwn hv zy; go_wp2_with (at_builtin; refine wp_append rfl _ _ rfl w.heap.size _ i S rfl (ho.alloc _) _ 1 1 [(x + 65536 - cy) % 65536] rfl (arr_one rfl ((x + 65536 - cy) % 65536) (by omega) (by omega)) (i + 1) rfl (by omega) (by have := hW.size; simp; omega) ?_); intro v4 w4 ho4 hg4; have hb4 := own_push ho hW hg4; have HO := Lib.hid ho4; clear ho4; go_wp2; exact ⟨⟨i + 1, _, _, by omega, by go_num, rfl, by omega, by omega, by simp; omega, HWN.out, HST.out, HO.out, hb4⟩, by simp only [intOf]; omega⟩)
    · have d1 : decide ((i : Int) < X.length) = false := by simp; omega
      have hl := sub_last hwS hlS hv.out (by omega) (by omega) hxy hc0
      have HL := Lib.hid hl
      clear hst hwn hv zy hl
      obtain ⟨A5, c5, rfl, hO⟩ := own_of_owns ho (dig_wf hwS)
      have C := Lib.hid (cut A5 _ c5 S wr hO.arr hwS)
      have hT := hO.take (Dig.wd (Dig.val S)).length (by have := Dig.wd_len hwS; omega)
      rw [Dig.wd_take hwS, HL.out] at hT
      rw [HL.out] at C
      go_wp2_with fail
      refine C.out.mono ?_; rintro r w' ⟨rfl, rfl⟩
      go_wp2
      go_ret
      exact ⟨A5, _, c5, rfl, hT, hW⟩
theorem rsub (A A' : Option Addr) (n c n' c' : Nat) (xs ys : List Int) (w : World) (h : Arr w A n c xs) (h' : Arr w A' n' c' ys) (hn : n ≤ 100000000) (hn' : n' ≤ 100000000) :
    Calls Tryd.prog 114 #[.slice A n c, .slice A' n' c'] w (RetS (val xs) (val ys) w) := by
  have hvx := h.val_nonneg
  have hvy := h'.val_nonneg
  have DX := Lib.hid (digits A n c xs w h hn)
  have DY := Lib.hid (fun w' (hb : Below w.heap.size w w') => digits A' n' c' ys w' (h'.below hb) hn')
  have lX : (Dig.wd (val xs)).length ≤ 4 * n := by
    have := Dig.wd_len (allD_wf xs)
    rw [allD_val h.wf, allD_length, h.len] at this; exact this
  have lX2 : ∀ z, 0 ≤ z → z ≤ val xs → (Dig.wd z).length ≤ 4 * n := fun z hz hzx => Nat.le_trans (Dig.wd_length_le hz (Int.lt_of_le_of_lt hzx (Dig.lt_pow_of_wd_length hvx (Nat.le_refl _)))) lX
  unfold RetS
  generalize val xs = x at *
  generalize val ys = y at *
  by_cases hv : y ≤ x
  · have hc : cmpI x y = 0 ∨ cmpI x y = 1 := by unfold cmpI; rw [if_neg (by omega)]; split <;> simp
    have hd : decide (y ≤ x) = true := decide_eq_true hv
    rw [if_pos hv, hd]
    clear hd
    go_enter Tryd.func114, Tryd.ntmps114
    go_wp2_with fail
    refine DX.out.mono ?_; rintro r w1 ⟨A1, n1, c1, rfl, hO1, hb1⟩
    have hn1 := hO1.len
    go_wp2_with fail
    refine (DY.out _ hb1).mono ?_; rintro r w2 ⟨A2, n2, c2, rfl, hO2, hb2⟩
    have hw2 := below_on hb1 hb2
    have a1 := hO1.arr.below hb2
    have a2 := hO2.arr
    have C := compare A1 A2 n1 c1 n2 c2 _ _ w2 hvx hvy a1 a2
    generalize cmpI x y = q at *
    have hq : decide (q < 0) = false := by simp; omega
    have HC := Lib.hid C
    clear C
    go_wp2_with fail
    refine HC.out.mono ?_; rintro r w3 ⟨rfl, hs⟩
    have hw3 := hw2.trans (hs.below _)
    go_wp2_with fail
    refine (minus A1 A2 n1 c1 n2 c2 x y w3 hvx hvy hv (a1.below (hs.below _)) (a2.below (hs.below _)) (by omega)).mono ?_
    rintro r w4 ⟨A4, n4, c4, rfl, hO4, hb4⟩
    have hw4 := below_on hw3 hb4
    have hl4 := lX2 (x - y) (by omega) (by omega)
    rw [hO4.len] at hl4
    have WW := words A4 n4 c4 _ w4 hO4.arr (Dig.wf_wd _ (by omega)) (by omega)
    rw [Dig.val_wd _ (by omega)] at WW
    have HW := Lib.hid WW
    clear WW
    go_wp2_with fail
    refine HW.out.mono ?_; rintro r w5 ⟨A5, n5, c5, rfl, hO5, hb5⟩
    go_wp2
    go_ret2
    exact ⟨A5, n5, c5, rfl, hO5.mono hw4.size, below_on hw4 hb5⟩
  · have hd : decide (y ≤ x) = false := decide_eq_false hv
    have hc : cmpI x y = -1 := by unfold cmpI; rw [if_pos (by omega)]
    rw [if_neg hv, hd]
    clear hd
    go_enter Tryd.func114, Tryd.ntmps114
    go_wp2_with fail
    refine DX.out.mono ?_; rintro r w1 ⟨A1, n1, c1, rfl, hO1, hb1⟩
    go_wp2_with fail
    refine (DY.out _ hb1).mono ?_; rintro r w2 ⟨A2, n2, c2, rfl, hO2, hb2⟩
    have hw2 := below_on hb1 hb2
    have C := compare A1 A2 n1 c1 n2 c2 _ _ w2 hvx hvy (hO1.arr.below hb2) hO2.arr
    rw [hc] at C
    have HC := Lib.hid C
    clear C
    go_wp2_with fail
    refine HC.out.mono ?_; rintro r w3 ⟨rfl, hs⟩
    have hw3 := hw2.trans (hs.below _)
    go_wp2_with fail
    go_ret2
    exact ⟨_, _, _, rfl, by rw [wd_zero (Int.le_refl _)]; exact Own.nil _ _ _ _ (by omega), hw3⟩
end Go.Proofs.YtlmojkknlkfloaaDoor
/- Digits by a digit; a digit that isn't too great. -/
namespace Go.Proofs.YtlmojkknlkfloaaDoor
open Go.RowKit Num
set_option maxRecDepth 100000

theorem times_step {S Y : List Int} {i : Nat} {cy d n : Int} (hl : S.length = i) (h : Dig.val S + cy * Dig.B ^ i = Dig.val (Y.take i) * d) (hn : n = Y.getD i 0 * d + cy) :
    Dig.val (S ++ [n % 65536]) + n / 65536 * Dig.B ^ (i + 1) = Dig.val (Y.take (i + 1)) * d := by
  rw [dig_snoc, hl, dig_take, Int.pow_succ]
  have e : n = n % 65536 + Dig.B * (n / 65536) := by rw [Dig.B_eq]; omega
  generalize Dig.B ^ i = p at *
  generalize n % 65536 = a at *
  generalize n / 65536 = b at *
  generalize Y.getD i 0 = y at *
  have e2 : p * a + b * (p * Dig.B) = p * n := by rw [e]; grind
  have e3 : p * n = p * (y * d) + cy * p := by rw [hn]; grind
  have e4 : (Dig.val (Y.take i) + p * y) * d = Dig.val (Y.take i) * d + p * (y * d) := by grind
  omega
theorem times_last {S Y : List Int} {i : Nat} {cy d : Int} (hl : S.length = i) (h : Dig.val S + cy * Dig.B ^ i = Dig.val (Y.take i) * d) (hi : Y.length ≤ i) : Dig.val (S ++ [cy]) = Dig.val Y * d := by
  rw [List.take_of_length_le hi] at h
  rw [dig_snoc, hl, ← h, Int.mul_comm]
theorem times (A : Option Addr) (n c : Nat) (y d : Int) (w : World) (ny : 0 ≤ y) (hd0 : 0 ≤ d) (hd : d ≤ 65536) (a : Arr w A n c (Dig.wd y)) (hn : n ≤ 1000000000) :
    Calls Tryd.prog 146 #[.slice A n c, .int .u64 d] w fun e w' => ∃ A' n' c', e = .returned (.slice A' n' c') ∧ Own w' w.heap.size A' n' c' (Dig.wd (y * d)) ∧ Below w.heap.size w w' := by
  have wY := Dig.wf_wd _ ny
  have vY := Dig.val_wd _ ny
  generalize hYe : Dig.wd y = Y at *
  clear hYe
  rw [← vY]
  clear vY ny
  obtain rfl := a.len
  have cap1 := a.cap
  have cap2 := a.big
  go_enter Tryd.func146, Tryd.ntmps146
  go_wp2
  go_loopw [5, 6, 7] (fun vs vc vi wr => ∃ (i : Nat) (cy : Int) (S : List Int), i ≤ Y.length ∧ vi = .int .i64 i ∧ vc = .int .u64 cy ∧ 0 ≤ cy ∧ cy ≤ 65535 ∧ S.length = i ∧ Dig.Wf S ∧ Hid (Dig.val S + cy * Dig.B ^ i = Dig.val (Y.take i) * d) ∧ wr.ownsRow w.heap.size 27 1 vs i (cellsOf S) ∧ Below w.heap.size w wr) (fun _ _ vi _ => Y.length + 1 - (intOf vi).toNat)
  case atStart => exact ⟨0, 0, [], Nat.zero_le _, rfl, rfl, by omega, by omega, rfl, Dig.wf_nil, by show _ = _; simp [Dig.val], owns_nil w _, below_self w⟩
  case round =>
    obtain ⟨i, cy, S, hi, rfl, rfl, hc0, hc1, hlS, hwS, hv, ho, hW⟩ := hrel
    by_cases hx : i < Y.length
    · have yg := wY.getD i
      have hst := fun n hn => times_step (n := n) hlS hv.out hn
      have hwn : ∀ n : Int, Dig.Wf (S ++ [n % 65536]) := fun n => Dig.wf_append.2 ⟨hwS, Dig.wf_cons.2 ⟨by omega, Dig.wf_nil⟩⟩
      obtain ⟨b, o, rfl, hlt, hc⟩ := (a.below hW).mem (by omega)
      have k1 := hc i hx
      clear hc
      generalize Y.getD i 0 = x at *
      have p1 : x * d ≤ 65535 * d := Int.mul_le_mul_of_nonneg_right (by omega) hd0
      have p2 : 0 ≤ x * d := Int.mul_nonneg yg.1 hd0
      have q1 := u64_in (x := x * d) p2 (by omega)
      have q2 := u64_in (x := x * d + cy) (by omega) (by omega)
      have HST := Lib.hid (hst (x * d + cy) rfl)
      have HWN := Lib.hid (hwn (x * d + cy))
      have t1 : (x * d + cy).tmod 65536 = (x * d + cy) % 65536 := Int.tmod_eq_emod_of_nonneg (by omega)
      have t2 : (x * d + cy).tdiv 65536 = (x * d + cy) / 65536 := Int.tdiv_eq_ediv_of_nonneg (by omega)
      have u1 : 0 ≤ (x * d + cy) / 65536 ∧ (x * d + cy) / 65536 ≤ 65535 := by omega
      have u2 : 0 ≤ (x * d + cy) % 65536 ∧ (x * d + cy) % 65536 < 65536 := by omega
      clear hst hwn hv
      go_wp2_with (at_builtin; refine wp_append rfl _ _ rfl w.heap.size _ i S rfl (ho.alloc _) _ 1 1 [(x * d + cy) % 65536] rfl (arr_one rfl ((x * d + cy) % 65536) (by omega) (by omega)) (i + 1) rfl (by omega) (by have := hW.size; simp; omega) ?_)
      intro v4 w4 ho4 hg4
      have hb4 := own_push ho hW hg4
      have HO := Lib.hid ho4
      clear ho4
      go_wp2
      exact ⟨⟨i + 1, _, _, by omega, by go_num, rfl, u1.1, u1.2, by simp; omega, HWN.out, HST.out, HO.out, hb4⟩, by simp only [intOf]; omega⟩
    · obtain rfl : i = Y.length := by omega
      have hl := times_last hlS hv.out (Nat.le_refl _)
      have HL := Lib.hid hl
      have hw5 : Dig.Wf (S ++ [cy]) := Dig.wf_append.2 ⟨hwS, Dig.wf_cons.2 ⟨by omega, Dig.wf_nil⟩⟩
      clear hl hv
      go_wp2_with (at_builtin; refine wp_append rfl _ _ rfl w.heap.size _ Y.length S rfl (ho.alloc _) _ 1 1 [cy] rfl (arr_one rfl cy (by omega) (by omega)) (Y.length + 1) rfl (by omega) (by have := hW.size; simp; omega) ?_)
      intro v4 w4 ho4 hg4
      have hb4 := own_push ho hW hg4
      obtain ⟨A5, c5, rfl, hO⟩ := own_of_owns ho4 (dig_wf hw5)
      have C := Lib.hid (cut A5 _ c5 _ w4 hO.arr hw5)
      have hT := hO.take (Dig.wd (Dig.val (S ++ [cy]))).length (by have := Dig.wd_len hw5; rw [hO.len] at this; exact this)
      rw [Dig.wd_take hw5, HL.out] at hT
      rw [HL.out] at C
      clear ho4 hO
      go_wp2_with fail
      refine C.out.mono ?_; rintro r w' ⟨rfl, rfl⟩
      go_wp2
      go_ret
      exact ⟨A5, _, c5, rfl, hT, hb4⟩
/-- The highest three digits of what is left, from the divisor's length on. -/
def ovf (L : List Int) (n : Nat) : Nat → Int
  | 0 => 0
  | j + 1 => ovf L n j * 65536 + (if j ≤ n then L.getD (n - j) 0 else 0)
theorem ovf_range {L : List Int} (h : Dig.Wf L) (n : Nat) : (0 ≤ ovf L n 0 ∧ ovf L n 0 < 1) ∧ (0 ≤ ovf L n 1 ∧ ovf L n 1 < 65536) ∧ (0 ≤ ovf L n 2 ∧ ovf L n 2 < 4294967296) ∧ (0 ≤ ovf L n 3 ∧ ovf L n 3 < 281474976710656) := by
  have a := h.getD (n - 0)
  have b := h.getD (n - 1)
  have c := h.getD (n - 2)
  simp only [ovf]
  split <;> split <;> split <;> omega
theorem dig_three_at {L : List Int} (h : Dig.Wf L) (n : Nat) (hn : 2 ≤ n) : ovf L n 3 * Dig.B ^ (n - 2) ≤ Dig.val L := by
  have e : ∀ i, Dig.val (L.drop i) = L.getD i 0 + Dig.B * Dig.val (L.drop (i + 1)) := fun i => by
    by_cases hi : i < L.length
    · rw [List.drop_eq_getElem_cons hi, Dig.val_cons, List.getD_eq_getElem?_getD, List.getElem?_eq_getElem hi]; rfl
    · rw [List.drop_eq_nil_of_le (by omega), List.drop_eq_nil_of_le (by omega), List.getD_eq_getElem?_getD, List.getElem?_eq_none (by omega)]; rfl
  have e0 : Dig.B ^ (n - 2) * Dig.val (L.drop (n - 2)) ≤ Dig.val L := by
    rw [Dig.val_drop h]
    exact Int.mul_ediv_self_le (by have := Dig.B_pow_pos (n - 2); omega)
  have e1 := e (n - 2)
  have e2 := e (n - 1)
  have e3 := e n
  rw [show n - 2 + 1 = n - 1 from by omega] at e1
  rw [show n - 1 + 1 = n from by omega] at e2
  have h4 := Dig.val_nonneg (h.drop (n + 1))
  have e5 : ovf L n 3 ≤ Dig.val (L.drop (n - 2)) := by
    simp only [ovf]
    rw [if_pos (by omega), if_pos (by omega), if_pos (by omega), Nat.sub_zero]
    rw [Dig.B_eq] at *
    omega
  have := Int.mul_le_mul_of_nonneg_left e5 (Int.le_of_lt (Dig.B_pow_pos (n - 2)))
  rw [Int.mul_comm (ovf L n 3)]
  omega
theorem guess_good {L Y : List Int} {n : Nat} (hL : Dig.Wf L) (hY : Dig.Wf Y) (hn : Y.length = n) (h1 : 1 ≤ n) :
    ovf L n 3 / (Y.getD (n - 1) 0 * 65536 + (if 2 ≤ n then Y.getD (n - 2) 0 else 0) + 1) * Dig.val Y ≤ Dig.val L := by
  have a1 := hY.getD (n - 1)
  have a2 := hY.getD (n - 2)
  have o3 := (ovf_range hL n).2.2.2
  by_cases h2 : 2 ≤ n
  · rw [if_pos h2]
    have h3 := dig_three_at hL n h2
    have hy : Dig.val Y < (Y.getD (n - 1) 0 * 65536 + Y.getD (n - 2) 0 + 1) * Dig.B ^ (n - 2) := by
      have e1 := Dig.val_take_drop Y (n - 2) (by omega)
      have e2 : Y.drop (n - 2) = [Y.getD (n - 2) 0, Y.getD (n - 1) 0] := by
        rw [List.drop_eq_getElem_cons (by omega), show n - 2 + 1 = n - 1 from by omega, List.drop_eq_getElem_cons (by omega), List.drop_eq_nil_of_le (by omega)]
        simp only [List.getD_eq_getElem?_getD, List.getElem?_eq_getElem (show n - 2 < Y.length by omega), List.getElem?_eq_getElem (show n - 1 < Y.length by omega)]
        rfl
      have e3 := Dig.val_lt (hY.take (n - 2))
      rw [List.length_take, Nat.min_eq_left (by omega)] at e3
      rw [e1, e2]
      simp only [Dig.val]
      have e4 : (Y.getD (n - 1) 0 * 65536 + Y.getD (n - 2) 0 + 1) * Dig.B ^ (n - 2) = Dig.B ^ (n - 2) * (Y.getD (n - 2) 0 + Dig.B * (Y.getD (n - 1) 0 + Dig.B * 0)) + Dig.B ^ (n - 2) := by rw [Dig.B_eq]; grind
      omega
    have ht : 0 < Y.getD (n - 1) 0 * 65536 + Y.getD (n - 2) 0 + 1 := by omega
    generalize Y.getD (n - 1) 0 * 65536 + Y.getD (n - 2) 0 + 1 = t at *
    have q0 : 0 ≤ ovf L n 3 / t := Int.ediv_nonneg o3.1 (by omega)
    have q1 := Int.ediv_mul_le (ovf L n 3) (b := t) (by omega)
    have m1 : ovf L n 3 / t * Dig.val Y ≤ ovf L n 3 / t * (t * Dig.B ^ (n - 2)) := Int.mul_le_mul_of_nonneg_left (by omega) q0
    have m2 : ovf L n 3 / t * t * Dig.B ^ (n - 2) ≤ ovf L n 3 * Dig.B ^ (n - 2) := Int.mul_le_mul_of_nonneg_right q1 (Int.le_of_lt (Dig.B_pow_pos _))
    rw [Int.mul_assoc] at m2
    omega
  · rw [if_neg h2]
    obtain rfl : n = 1 := by omega
    have e1 : Dig.val Y = Y.getD 0 0 := by
      obtain ⟨y, rfl⟩ := List.length_eq_one_iff.1 hn
      simp [Dig.val]
    have e2 : ovf L 1 3 = (L.getD 1 0 * 65536 + L.getD 0 0) * 65536 := by simp [ovf]
    have e3 : L.getD 1 0 * 65536 + L.getD 0 0 ≤ Dig.val L := by
      rcases L with _ | ⟨x, _ | ⟨z, L⟩⟩
      · simp [Dig.val]
      · simp [Dig.val]
      · have := Dig.val_nonneg (Dig.wf_cons.1 (Dig.wf_cons.1 hL).2).2
        simp only [Dig.val, List.getD_cons_zero, List.getD_cons_succ, Dig.B_eq]
        omega
    rw [e1, e2]
    simp only [Nat.sub_self] at *
    generalize Y.getD 0 0 = y at *
    rw [e2] at o3
    generalize L.getD 1 0 * 65536 + L.getD 0 0 = l at *
    have q0 : 0 ≤ l * 65536 / (y * 65536 + 0 + 1) := Int.ediv_nonneg o3.1 (by omega)
    have q1 := Int.ediv_mul_le (l * 65536) (b := y * 65536 + 0 + 1) (by omega)
    generalize l * 65536 / (y * 65536 + 0 + 1) = q at *
    have e5 : q * (y * 65536 + 0 + 1) = q * y * 65536 + q := by grind
    omega
theorem guess_min {q y l : Int} (hy : 0 ≤ y) (hq : 0 ≤ q) (h : q * y ≤ l) : 0 ≤ min q 65535 ∧ min q 65535 ≤ 65535 ∧ min q 65535 * y ≤ l := by
  have : min q 65535 * y ≤ q * y := Int.mul_le_mul_of_nonneg_right (by omega) hy
  omega
set_option maxHeartbeats 1000000 in
theorem guess (A1 A2 : Option Addr) (n1 c1 n2 c2 : Nat) (l y : Int) (w : World) (nl : 0 ≤ l) (hy : 0 < y) (a1 : Arr w A1 n1 c1 (Dig.wd l)) (a2 : Arr w A2 n2 c2 (Dig.wd y)) (hn : n1 ≤ 1000000000) (hn2 : n2 ≤ 1000000000) :
    Calls Tryd.prog 145 #[.slice A1 n1 c1, .slice A2 n2 c2] w fun e w' => ∃ g : Int, e = .returned (.int .u64 g) ∧ 0 ≤ g ∧ g ≤ 65535 ∧ g * y ≤ l ∧ w = w' := by
  have wX := Dig.wf_wd _ nl
  have wY := Dig.wf_wd y (by omega)
  have vX := Dig.val_wd _ nl
  have vY := Dig.val_wd y (by omega)
  have hY1 : 0 < (Dig.wd y).length := List.length_pos_iff.2 (Dig.wd_ne_nil hy)
  generalize Dig.wd l = X at *
  generalize Dig.wd y = Y at *
  obtain rfl := a1.len
  obtain rfl := a2.len
  have hg := guess_good (n := Y.length) wX wY rfl hY1
  rw [vX, vY] at hg
  have HO := Lib.hid (ovf_range wX Y.length)
  have o3 := (ovf_range wX Y.length).2.2.2
  have t1 := wY.getD (Y.length - 1)
  have t2 := wY.getD (Y.length - 2)
  have hV : ∀ j : Nat, ovf X Y.length (j + 1) = ovf X Y.length j * 65536 + (if j ≤ Y.length then X.getD (Y.length - j) 0 else 0) := fun j => rfl
  have HV := Lib.hid hV
  clear hV
  have hX0 : ∀ k, X.length ≤ k → X.getD k 0 = 0 := fun k hk => by rw [List.getD_eq_getElem?_getD, List.getElem?_eq_none hk]; rfl
  have HX0 := Lib.hid hX0
  have HWX := Lib.hid wX
  obtain ⟨b2, o2, rfl, hlt2, hc2⟩ := a2.mem (by omega)
  have k1 := hc2 (Y.length - 1) (by omega)
  have k2 : 2 ≤ Y.length → w.cell? ⟨b2, o2 + (Y.length - 2), none⟩ = some (.int .u64 (Y.getD (Y.length - 2) 0)) := fun h => hc2 _ (by omega)
  have K2 := Lib.hid k2
  clear hc2 vX vY hX0 k2 wX wY
  generalize Y.getD (Y.length - 1) 0 = yt at *
  generalize Y.getD (Y.length - 2) 0 = yn at *
  by_cases h2 : 2 ≤ Y.length
  · have k2 := K2.out h2
    rw [if_pos h2] at hg
    have tp : 0 < yt * 65536 + yn + 1 := by omega
    have q0 : 0 ≤ ovf X Y.length 3 / (yt * 65536 + yn + 1) := Int.ediv_nonneg o3.1 (by omega)
    have HG := Lib.hid (guess_min (by omega) q0 hg)
    have td : (ovf X Y.length 3).tdiv (yt * 65536 + yn + 1) = ovf X Y.length 3 / (yt * 65536 + yn + 1) := Int.tdiv_eq_ediv_of_nonneg o3.1
    have qw := u64_in q0 (Int.lt_of_le_of_lt (Int.ediv_le_self _ o3.1) (by omega))
    have dd : decide ((Y.length : Int) > 1) = true := by simp; omega
    clear hg
    go_enter Tryd.func145, Tryd.ntmps145
    go_wp2_with fail
    (go_loop [7, 8] (fun vo vi => ∃ j : Nat, j ≤ 3 ∧ vi = .int .i64 ((Y.length : Int) - j) ∧ vo = .int .u64 (ovf X Y.length j)) (fun _ vi => (intOf vi - Y.length + 4).toNat); (case atStart => exact ⟨0, by omega, by simp, rfl⟩); (case round => obtain ⟨j, hj, rfl, rfl⟩ := hrel; by_cases hj3 : j < 3; (· have hov : 0 ≤ ovf X Y.length j ∧ ovf X Y.length j < 4294967296 := (by have := HO.out; have hj4 : j = 0 ∨ j = 1 ∨ j = 2 := (by omega); rcases hj4 with rfl | rfl | rfl <;> omega); have hnx := HV.out j; by_cases hjn : j ≤ Y.length; (· rw [if_pos hjn] at hnx; obtain ⟨k, hk⟩ : ∃ k : Nat, Y.length - j = k := ⟨_, rfl⟩; have hki : (Y.length : Int) - j = (k : Int) := (by omega); rw [hk] at hnx; rw [hki]; have xg := HWX.out.getD k; by_cases hkx : k < X.length; (· obtain ⟨b, o, rfl, hlt, hc⟩ := a1.mem (by omega); have c1' := hc k hkx; have dk : decide ((k : Int) < X.length) = true := (by simp; omega); generalize X.getD k 0 = x at *; have HN := Lib.hid hnx; clear hc hnx hk; generalize ovf X Y.length j = ov at *; go_wp2_with fail; exact ⟨⟨j + 1, by omega, by (refine congrArg _ ?_; omega), by rw [HN.out]⟩, by simp only [intOf]; omega⟩); (· have dk : decide ((k : Int) < X.length) = false := (by simp; omega); rw [HX0.out k (by omega)] at hnx; have HN := Lib.hid hnx; clear hnx hk; generalize ovf X Y.length j = ov at *; go_wp2_with fail; exact ⟨⟨j + 1, by omega, by go_num, by (rw [HN.out]; try simp)⟩, by simp only [intOf]; omega⟩)); (· rw [if_neg hjn] at hnx; have dk : decide ((Y.length : Int) - j ≥ 0) = false := (decide_eq_false (by omega)); have HN := Lib.hid hnx; clear hnx; generalize ovf X Y.length j = ov at *; go_wp2_with fail; all_goals exact ⟨⟨j + 1, by omega, by (first | rfl | go_num | (refine congrArg _ ?_; omega)), by (rw [HN.out]; try simp)⟩, by simp only [intOf]; omega⟩)); (· obtain rfl : j = 3 := (by omega); generalize ovf X Y.length 3 = o3v at *; go_wp2_with fail; go_ret; exact ⟨_, rfl, HG.out.1, HG.out.2.1, HG.out.2.2, rfl⟩)))
  · have dd : decide ((Y.length : Int) > 1) = false := by simp; omega
    rw [if_neg h2] at hg
    have tp : 0 < yt * 65536 + 1 := by omega
    have e0 : yt * 65536 + 0 + 1 = yt * 65536 + 1 := by omega
    rw [e0] at hg
    have q0 : 0 ≤ ovf X Y.length 3 / (yt * 65536 + 1) := Int.ediv_nonneg o3.1 (by omega)
    have HG := Lib.hid (guess_min (by omega) q0 hg)
    have td : (ovf X Y.length 3).tdiv (yt * 65536 + 1) = ovf X Y.length 3 / (yt * 65536 + 1) := Int.tdiv_eq_ediv_of_nonneg o3.1
    have qw := u64_in q0 (Int.lt_of_le_of_lt (Int.ediv_le_self _ o3.1) (by omega))
    clear hg e0
    go_enter Tryd.func145, Tryd.ntmps145
    go_wp2_with fail
    (go_loop [7, 8] (fun vo vi => ∃ j : Nat, j ≤ 3 ∧ vi = .int .i64 ((Y.length : Int) - j) ∧ vo = .int .u64 (ovf X Y.length j)) (fun _ vi => (intOf vi - Y.length + 4).toNat); (case atStart => exact ⟨0, by omega, by simp, rfl⟩); (case round => obtain ⟨j, hj, rfl, rfl⟩ := hrel; by_cases hj3 : j < 3; (· have hov : 0 ≤ ovf X Y.length j ∧ ovf X Y.length j < 4294967296 := (by have := HO.out; have hj4 : j = 0 ∨ j = 1 ∨ j = 2 := (by omega); rcases hj4 with rfl | rfl | rfl <;> omega); have hnx := HV.out j; by_cases hjn : j ≤ Y.length; (· rw [if_pos hjn] at hnx; obtain ⟨k, hk⟩ : ∃ k : Nat, Y.length - j = k := ⟨_, rfl⟩; have hki : (Y.length : Int) - j = (k : Int) := (by omega); rw [hk] at hnx; rw [hki]; have xg := HWX.out.getD k; by_cases hkx : k < X.length; (· obtain ⟨b, o, rfl, hlt, hc⟩ := a1.mem (by omega); have c1' := hc k hkx; have dk : decide ((k : Int) < X.length) = true := (by simp; omega); generalize X.getD k 0 = x at *; have HN := Lib.hid hnx; clear hc hnx hk; generalize ovf X Y.length j = ov at *; go_wp2_with fail; exact ⟨⟨j + 1, by omega, by (refine congrArg _ ?_; omega), by rw [HN.out]⟩, by simp only [intOf]; omega⟩); (· have dk : decide ((k : Int) < X.length) = false := (by simp; omega); rw [HX0.out k (by omega)] at hnx; have HN := Lib.hid hnx; clear hnx hk; generalize ovf X Y.length j = ov at *; go_wp2_with fail; exact ⟨⟨j + 1, by omega, by go_num, by (rw [HN.out]; try simp)⟩, by simp only [intOf]; omega⟩)); (· rw [if_neg hjn] at hnx; have dk : decide ((Y.length : Int) - j ≥ 0) = false := (decide_eq_false (by omega)); have HN := Lib.hid hnx; clear hnx; generalize ovf X Y.length j = ov at *; go_wp2_with fail; all_goals exact ⟨⟨j + 1, by omega, by (first | rfl | go_num | (refine congrArg _ ?_; omega)), by (rw [HN.out]; try simp)⟩, by simp only [intOf]; omega⟩)); (· obtain rfl : j = 3 := (by omega); generalize ovf X Y.length 3 = o3v at *; go_wp2_with fail; go_ret; exact ⟨_, rfl, HG.out.1, HG.out.2.1, HG.out.2.2, rfl⟩)))
end Go.Proofs.YtlmojkknlkfloaaDoor
/- The document's quotient. -/
namespace Go.Proofs.YtlmojkknlkfloaaDoor
open Go.RowKit Num
set_option maxRecDepth 100000

theorem dig_drop_cons {X : List Int} {i : Nat} (hi : i < X.length) : Dig.val (X.drop i) = X.getD i 0 + 65536 * Dig.val (X.drop (i + 1)) := by
  rw [List.drop_eq_getElem_cons hi, Dig.val_cons, List.getD_eq_getElem?_getD, List.getElem?_eq_getElem hi]; rfl
theorem rdiv_round {X : List Int} {i : Nat} {y : Int} (hi : i < X.length) (hy : 0 < y) :
    Dig.val (X.drop i) / y = (X.getD i 0 + 65536 * (Dig.val (X.drop (i + 1)) % y)) / y + 65536 * (Dig.val (X.drop (i + 1)) / y) ∧
    Dig.val (X.drop i) % y = (X.getD i 0 + 65536 * (Dig.val (X.drop (i + 1)) % y)) % y := by
  rw [dig_drop_cons hi]
  have h1 := div_two (Dig.val (X.drop (i + 1))) (X.getD i 0) 65536 hy
  have h2 := mod_two (Dig.val (X.drop (i + 1))) (X.getD i 0) 65536 y
  generalize Dig.val (X.drop (i + 1)) = v at *
  generalize X.getD i 0 = x at *
  have e1 : v * 65536 + x = x + 65536 * v := by omega
  have e2 : v % y * 65536 + x = x + 65536 * (v % y) := by omega
  rw [e1, e2] at h1 h2
  exact ⟨by rw [h1]; omega, h2⟩
theorem rdiv_digit {x L y : Int} (hx0 : 0 ≤ x) (hx : x < 65536) (hL0 : 0 ≤ L) (hL : L < y) : 0 ≤ (x + 65536 * L) / y ∧ (x + 65536 * L) / y < 65536 := by
  refine ⟨Int.ediv_nonneg (by omega) (by omega), Int.ediv_lt_of_lt_mul (by omega) (by omega)⟩
theorem rdiv_found {l v y : Int} (hy : 0 < y) (h0 : l * y ≤ v) (h1 : v < y * (l + 1)) : v / y = l ∧ v % y = v - y * l := by
  have e : v / y = l := by
    have a := Int.le_ediv_of_mul_le hy h0
    have b := Int.ediv_lt_of_lt_mul hy (by rw [Int.mul_comm]; exact h1 : v < (l + 1) * y)
    omega
  refine ⟨e, ?_⟩
  rw [Int.emod_def, e]
theorem dig_set_drop {Q : List Int} {i : Nat} (hi : i < Q.length) (d : Int) : Dig.val ((Q.set i d).drop i) = d + 65536 * Dig.val (Q.drop (i + 1)) := by
  rw [dig_drop_cons (by rw [List.length_set]; exact hi), getD_set_same _ _ _ hi]
  congr 3
  rw [List.drop_set_of_lt (by omega)]
theorem owns_one {w : World} {base g : Nat} (hg : g = w.heap.size) (hb : base ≤ w.heap.size) (x : Int) : (w.alloc (.cells #[.int .u64 x] 27)).ownsRow base 27 1 (.slice (some ⟨g, 0, none⟩) 1 1) 1 (cellsOf [x]) := by
  subst hg; exact World.ownsRow_lit w #[.int .u64 x] 1 hb (by decide) (by simp)
theorem dig_len_le {a b : Int} {k : Nat} (h0 : 0 ≤ a) (h : a ≤ b) (hb : (Dig.wd b).length ≤ k) : (Dig.wd a).length ≤ k :=
  Dig.wd_length_le h0 (Int.lt_of_le_of_lt h (Dig.lt_pow_of_wd_length (by omega) hb))
set_option maxHeartbeats 4000000 in
theorem rdivmod (A A' : Option Addr) (n c n' c' : Nat) (xs ys : List Int) (w : World) (h : Arr w A n c xs) (h' : Arr w A' n' c' ys) (hn : n ≤ 10000000) (hn' : n' ≤ 10000000) :
    Calls Tryd.prog 132 #[.slice A n c, .slice A' n' c'] w (RetDM (val xs) (val ys) w) := by
  have hvx := h.val_nonneg
  have hvy := h'.val_nonneg
  have DX := Lib.hid (digits A n c xs w h (by omega))
  have DY := Lib.hid (fun w' (hb : Below w.heap.size w w') => digits A' n' c' ys w' (h'.below hb) (by omega))
  have lX : (Dig.wd (val xs)).length ≤ 4 * n := by
    have := Dig.wd_len (allD_wf xs)
    rw [allD_val h.wf, allD_length, h.len] at this; exact this
  have lY : (Dig.wd (val ys)).length ≤ 4 * n' := by
    have := Dig.wd_len (allD_wf ys)
    rw [allD_val h'.wf, allD_length, h'.len] at this; exact this
  by_cases h0 : val ys = 0
  · have e0 : Dig.wd (val ys) = [] := by rw [h0]; exact Dig.wd_zero (Int.le_refl _)
    have e1 : wd (divI (val xs) (val ys)) = [] := by unfold divI; rw [if_pos h0]; exact wd_zero (Int.le_refl _)
    have e2 : wd (modI (val xs) (val ys)) = [] := by unfold modI; rw [if_pos h0]; exact wd_zero (Int.le_refl _)
    have e3 : decide (0 < val ys) = false := by simp; omega
    unfold RetDM
    rw [e1, e2, e3]
    rw [e0] at DY
    clear e0 e1 e2 e3 h0
    go_enter Tryd.func132, Tryd.ntmps132
    go_wp2_with fail
    refine DX.out.mono ?_; rintro r w1 ⟨A1, n1, c1, rfl, hO1, hb1⟩
    go_wp2_with fail
    refine (DY.out _ hb1).mono ?_; rintro r w2 ⟨A2, n2, c2, rfl, hO2, hb2⟩
    obtain rfl : n2 = 0 := hO2.len.symm
    have hw2 := below_on hb1 hb2
    go_wp2_with fail
    refine bodyPost_ret (v := .tuple #[.slice none 0 0, .slice none 0 0, .bool false]) (by simp [results, Tryd.results132, go_sem]) rfl ?_
    exact ⟨none, 0, 0, none, 0, 0, rfl, Arr.nothing _, Arr.nothing _, hw2⟩
  · have hp : 0 < val ys := by omega
    unfold RetDM divI modI
    rw [if_neg h0, if_neg h0, decide_eq_true hp]
    have wX := Dig.wf_wd _ hvx
    have vX := Dig.val_wd _ hvx
    generalize hXe : Dig.wd (val xs) = X at *
    generalize val xs = x at *
    clear hXe
    subst vX
    generalize val ys = y at *
    have hYp : 0 < (Dig.wd y).length := List.length_pos_iff.2 (Dig.wd_ne_nil hp)
    have lYL : ∀ L : Int, 0 ≤ L → L < y → (Dig.wd L).length ≤ 40000000 := fun L a b => dig_len_le a (Int.le_of_lt b) (by omega)
    have lM : ∀ M : Int, 0 ≤ M → M < 65536 * y → (Dig.wd M).length ≤ 40000001 := fun M a b => Dig.wd_length_le a (by
      have h1 := Dig.lt_pow_of_wd_length (n := y) (by omega) (k := 40000000) (by omega)
      rw [Int.pow_succ]
      generalize Dig.B ^ 40000000 = P at *
      show M < P * 65536
      omega)
    have HLY := Lib.hid lYL
    have HLM := Lib.hid lM
    clear lYL lM h h' h0
    go_enter Tryd.func132, Tryd.ntmps132
    go_wp2_with fail
    refine DX.out.mono ?_; rintro r w1 ⟨A1, n1, c1, rfl, hO1, hb1⟩
    have en1 := hO1.len
    go_wp2_with fail
    refine (DY.out _ hb1).mono ?_; rintro r w2 ⟨A2, n2, c2, rfl, hO2, hb2⟩
    have en2 := hO2.len
    have hw2 := below_on hb1 hb2
    have a1 := hO1.arr.below hb2
    have a2 := hO2.arr
    have z2 : ((n2 : Int) == 0) = false := beq_eq_false_iff_ne.2 (by omega)
    subst en1
    clear hO1 hO2 DX DY hb1 hb2
    go_wp2_with (at_make; refine wp_make rfl _ _ rfl _ _ X.length rfl rfl ?m1 ?m2 ?m3 ?_)
    case m1 => omega
    case m2 => omega
    case m3 => omega
    intro g w3 hg hrow hb3
    have ap1 := a1.apart (Nat.le_of_eq hg.symm)
    have ap2 := a2.apart (Nat.le_of_eq hg.symm)
    have hb3' : Below w2.heap.size w2 w3 := hb3.mono (Nat.le_of_eq hg.symm)
    have hw3 := below_on hw2 hb3'
    have hgw : w.heap.size ≤ g := by have := hw2.size; omega
    have a1 := a1.below hb3'
    have a2 := a2.below hb3'
    clear hg hb3 hb3' hw2
    go_wp2_with fail
    go_loopw [9, 11] (fun vl vi wr => ∃ (r : Nat) (A3 : Option Addr) (n3 c3 : Nat) (L : Int) (Q : List Int), r ≤ X.length ∧ vi = .int .i64 ((r : Int) - 1) ∧ vl = .slice A3 n3 c3 ∧ Arr wr A3 n3 c3 (Dig.wd L) ∧ Row wr g Q ∧ Q.length = X.length ∧ Dig.Wf Q ∧ 0 ≤ L ∧ L < y ∧ Arr wr A1 X.length c1 X ∧ Arr wr A2 n2 c2 (Dig.wd y) ∧ Below w.heap.size w wr ∧ Hid (Dig.val (Q.drop r) = Dig.val (X.drop r) / y) ∧ Hid (L = Dig.val (X.drop r) % y)) (fun _ vi _ => (intOf vi + 1).toNat)
    case atStart => exact ⟨X.length, none, 0, 0, 0, _, Nat.le_refl _, by go_num, rfl, by rw [Dig.wd_zero (Int.le_refl _)]; exact Arr.nothing _, hrow, by simp, Dig.wf_replicate _, by omega, hp, a1, a2, hw3, by show _ = _; rw [List.drop_eq_nil_of_le (by simp), List.drop_eq_nil_of_le (by simp)]; simp [Dig.val], by show _ = _; rw [List.drop_eq_nil_of_le (by simp)]; simp [Dig.val]⟩
    case round =>
      clear a1 a2 hw3 hrow
      obtain ⟨r, A3, n3, c3, L, Q, hr, rfl, rfl, a3, hR, hQl, hQw, hL0, hL1, a1, a2, hW, hv, hm⟩ := hrel
      have ln3 := HLY.out L hL0 hL1
      rw [a3.len] at ln3
      by_cases hr0 : 0 < r
      · obtain ⟨i, rfl⟩ : ∃ i, r = i + 1 := ⟨r - 1, by omega⟩
        have ei : (((i + 1 : Nat) : Int) - 1) = (i : Int) := by omega
        rw [ei]
        obtain ⟨b, o, rfl, hlt, hc⟩ := a1.mem (by omega)
        have k1 := hc i (by omega)
        have xg := wX.getD i
        have hrd := rdiv_round (X := X) (i := i) (y := y) (by omega) hp
        rw [← hm.out] at hrd
        have hdg := rdiv_digit xg.1 xg.2 hL0 hL1
        clear hc
        generalize X.getD i 0 = x at *
        have hM0 : 0 ≤ x + 65536 * L := by omega
        have lM := HLM.out (x + 65536 * L) hM0 (by omega)
        have hMy : x + 65536 * L < 65536 * y := by omega
        have hvl : Dig.val (x :: Dig.wd L) = x + 65536 * L := by
          show x + Dig.B * Dig.val (Dig.wd L) = _
          rw [Dig.val_wd _ hL0]; rfl
        have hwl : Dig.Wf (x :: Dig.wd L) := Dig.wf_cons.2 ⟨xg, Dig.wf_wd _ hL0⟩
        have HRD := Lib.hid hrd
        have HVL := Lib.hid hvl
        have HVQ := hv
        clear hrd hvl hv hm
        go_wp2_with (at_builtin; refine wp_append rfl _ _ rfl wr.heap.size _ 1 [x] rfl (owns_one ?o1 (Nat.le_refl _) x) A3 n3 c3 (Dig.wd L) rfl (a3.below (below_alloc (below_self _) _)) (1 + n3) rfl ?o2 ?o3 ?_)
        case o1 => first | rfl | simp
        case o2 => omega
        case o3 => simp
        intro v4 w4 ho4 hg4
        have hb4 : Below wr.heap.size wr w4 := (below_alloc (below_self wr) _).trans (grown_below hg4 (by simp) (by
          intro k hk
          simp [Value.ownBlock] at hk
          omega))
        obtain ⟨A5, c5, rfl, hO5⟩ := own_of_owns ho4 (dig_wf hwl)
        have C := Lib.hid (cut A5 _ c5 _ w4 hO5.arr hwl)
        have hT := hO5.take (Dig.wd (Dig.val (x :: Dig.wd L))).length (by have := Dig.wd_len hwl; rw [hO5.len] at this; exact this)
        rw [Dig.wd_take hwl, HVL.out] at hT
        rw [HVL.out] at C
        have hR4 := hR.below hb4 hR.lt
        have a1 := a1.below hb4
        have a2 := a2.below hb4
        have hw4 := below_on hW hb4
        have hgl := hR.lt
        have ap5 : blk A5 (Dig.wd (x + 65536 * L)).length = none ∨ blk A5 (Dig.wd (x + 65536 * L)).length ≠ some g := by
          by_cases hz : 0 < (Dig.wd (x + 65536 * L)).length
          · obtain ⟨g5, S5, rfl, hB5, _⟩ := hT.row hz
            rw [blk_pos hz]
            exact .inr (by simp; omega)
          · rw [show (Dig.wd (x + 65536 * L)).length = 0 by omega]; exact .inl rfl
        have a5 := hT.arr
        clear ho4 hg4 hO5 hT hb4 a3 hR hwl
        generalize x + 65536 * L = M at *
        go_wp2_with fail
        refine C.out.mono ?_; rintro r w' ⟨rfl, rfl⟩
        go_wp2_with fail
        refine (guess A5 A2 _ c5 n2 c2 M y w4 hM0 hp a5 a2 (by omega) (by omega)).mono ?_
        rintro r w' ⟨g0, rfl, hg0, hg1, hgm, rfl⟩
        have HG0 := Lib.hid hgm
        clear hgm C
        go_wp2_with fail
        go_loopw [12] (fun vl wr => ∃ l : Int, vl = .int .u64 l ∧ 0 ≤ l ∧ l ≤ 65535 ∧ Hid (l * y ≤ M) ∧ Below w4.heap.size w4 wr) (fun vl _ => (65536 - intOf vl).toNat)
        case atStart => exact ⟨g0, rfl, hg0, hg1, HG0.out, below_self _⟩
        case round =>
          obtain ⟨l, rfl, hl0, hl1, hlm, hb5⟩ := hrel
          have TM := Lib.hid (times A2 n2 c2 y (l + 1) wr (by omega) (by omega) (by omega) (a2.below hb5) (by omega))
          have hyl0 : 0 ≤ y * (l + 1) := Int.mul_nonneg (by omega) (by omega)
          go_wp2_with fail
          refine TM.out.mono ?_; rintro r w6 ⟨A6, n6, c6, rfl, hO6, hb6⟩
          have hb56 := below_on hb5 hb6
          have C := Lib.hid (compare A6 A5 n6 c6 _ c5 (y * (l + 1)) M w6 hyl0 hM0 hO6.arr (a5.below hb56))
          by_cases hle : y * (l + 1) ≤ M
          · have hcc : cmpI (y * (l + 1)) M = -1 ∨ cmpI (y * (l + 1)) M = 0 := by
              by_cases hlt : y * (l + 1) < M
              · exact .inl (cmpI_lt hlt)
              · exact .inr (cmpI_eq (by omega))
            have hl2 : l + 1 ≤ 65535 := by
              by_cases hh : l + 1 ≤ 65535
              · exact hh
              · obtain rfl : l = 65535 := by omega
                exfalso; omega
            have HL : Hid ((l + 1) * y ≤ M) := by show _ ≤ _; rw [Int.mul_comm]; exact hle
            generalize cmpI (y * (l + 1)) M = cq at *
            have dq : decide (cq ≤ 0) = true := by simp; omega
            clear hle TM
            go_wp2_with fail
            refine C.out.mono ?_; rintro r w7 ⟨rfl, s7⟩
            go_wp2_with fail
            exact ⟨⟨l + 1, by go_num, by omega, hl2, HL.out, hb56.trans (s7.below _)⟩, by simp only [intOf]; omega⟩
          · have hcc : cmpI (y * (l + 1)) M = 1 := cmpI_gt (by omega)
            have hf := rdiv_found hp hlm.out (by omega : M < y * (l + 1))
            rw [hcc] at C
            have HF := Lib.hid hf
            have hyl : 0 ≤ y * l := Int.mul_nonneg (by omega) hl0
            have hyM : y * l ≤ M := by rw [Int.mul_comm]; exact hlm.out
            clear hcc hle TM hf hlm
            go_wp2_with fail
            refine C.out.mono ?_; rintro r w7 ⟨rfl, s7⟩
            have hb57 := hb56.trans (s7.below _)
            have hR7 := hR4.below hb57 hR4.lt
            have a17 := a1.below hb57
            have a27 := a2.below hb57
            have a57 := a5.below hb57
            have hw7 := below_on hw4 hb57
            have r1 := hR7.cell i (by omega)
            have r2 := hR7.free i
            have hset := hR7.set i (by omega) l hl0 (by omega)
            have a18 := a17.other (grown_set w7 g i (.int .u64 l)) ap1
            have a28 := a27.other (grown_set w7 g i (.int .u64 l)) ap2
            have a58 := a57.other (grown_set w7 g i (.int .u64 l)) ap5
            have hw8 := below_set hw7 g i hgw (.int .u64 l)
            have hQw' := hQw.set i (x := l) hl0 (by omega)
            have hdr := dig_set_drop (Q := Q) (i := i) (by omega) l
            have TM := Lib.hid (times A2 n2 c2 y l _ (by omega) hl0 (by omega) a28 (by omega))
            clear hb5 hb6 hb56 hb57 hO6 C s7 hR7 a17 a27 a57 hw7
            go_wp2_with fail
            refine TM.out.mono ?_; rintro r w9 ⟨A9, n9, c9, rfl, hO9, hb9⟩
            have MN := Lib.hid (minus A5 A9 _ c5 n9 c9 M (y * l) w9 hM0 hyl hyM (a58.below hb9) hO9.arr (by omega))
            have hw9 := below_on hw8 hb9
            have hR9 := hset.below hb9 hset.lt
            have a19 := a18.below hb9
            have a29 := a28.below hb9
            clear TM hO9 hb9 hset a18 a28 a58 hw8
            go_wp2_with fail
            refine MN.out.mono ?_; rintro r w10 ⟨A10, n10, c10, rfl, hO10, hb10⟩
            have hml : 0 ≤ M - y * l ∧ M - y * l < y := by
              rw [← HF.out.2]; exact ⟨Int.emod_nonneg _ (by omega), Int.emod_lt_of_pos _ hp⟩
            have HV : Hid (Dig.val ((Q.set i l).drop i) = Dig.val (X.drop i) / y) := by
              show _ = _; rw [hdr, HVQ.out, HRD.out.1, HF.out.1]
            have HM : Hid (M - y * l = Dig.val (X.drop i) % y) := by
              show _ = _; rw [HRD.out.2, HF.out.2]
            clear hdr
            go_wp2_with fail
            exact ⟨⟨i, A10, n10, c10, M - y * l, _, by omega, by go_num, rfl, hO10.arr, hR9.below hb10 hR9.lt, by rw [List.length_set]; exact hQl, hQw', hml.1, hml.2, a19.below hb10, a29.below hb10, below_on hw9 hb10, HV.out, HM.out⟩, by simp only [intOf]; omega⟩
      · obtain rfl : r = 0 := by omega
        have hv := hv.out
        have hm := hm.out
        rw [List.drop_zero, List.drop_zero] at hv
        rw [List.drop_zero] at hm
        have hA := hR.arr' (n := X.length) (c := X.length) hQl (by omega) (by omega)
        have W1 := words _ _ _ Q wr hA hQw (by omega)
        rw [hv] at W1
        have W1 := Lib.hid W1
        have W2 := Lib.hid (fun w' (hb : Below wr.heap.size wr w') => words A3 n3 c3 (Dig.wd L) w' (a3.below hb) (Dig.wf_wd _ hL0) (by omega))
        rw [Dig.val_wd _ hL0] at W2
        have HM := Lib.hid hm
        clear hv hm
        go_wp2_with fail
        refine W1.out.mono ?_; rintro r w5 ⟨A5, n5, c5, rfl, hO5, hb5⟩
        go_wp2_with fail
        refine (W2.out _ hb5).mono ?_; rintro r w6 ⟨A6, n6, c6, rfl, hO6, hb6⟩
        go_wp2_with fail
        refine bodyPost_ret (v := .tuple #[.slice A5 n5 c5, .slice A6 n6 c6, .bool true]) (by simp [results, Tryd.results132, go_sem]) rfl ?_
        exact ⟨_, _, _, _, _, _, rfl, hO5.arr.below hb6, by rw [← HM.out]; exact hO6.arr, below_on (below_on hW hb5) hb6⟩
end Go.Proofs.YtlmojkknlkfloaaDoor
