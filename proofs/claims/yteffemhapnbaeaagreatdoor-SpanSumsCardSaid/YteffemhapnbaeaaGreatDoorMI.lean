/- A text of ours, with only what the claim's row needs (wip/tools/shake.py). -/
import Derived.Test.YteffemhapnbaeaaGreatDoorMH
import Derived.Test.YteffemhapnbaeaaGreatDoorMC
import Derived.Test.YteffemhapnbaeaaGreatDoorMF
namespace Go.Proofs.YteffemhapnbaeaaGreatDoor
open Go.RowKit Num
set_option maxRecDepth 100000

theorem sub_step {S X Y : List Int} {i : Nat} {bw n : Int} (hl : S.length = i) (h : Dig.val S - bw * Dig.B ^ i = Dig.val (X.take i) - Dig.val (Y.take i)) (hn : n = X.getD i 0 + 65536 - bw - Y.getD i 0) :
    Dig.val (S ++ [n % 65536]) - (1 - n / 65536) * Dig.B ^ (i + 1) = Dig.val (X.take (i + 1)) - Dig.val (Y.take (i + 1)) := by
  rw [dig_snoc, hl, dig_take, dig_take, Int.pow_succ]
  have e : n = n % 65536 + Dig.B * (n / 65536) := by rw [Dig.B_eq]; omega
  generalize Dig.B ^ i = p at *
  generalize X.getD i 0 = x at *
  generalize Y.getD i 0 = y at *
  generalize n % 65536 = a at *
  generalize n / 65536 = b at *
  have e2 : p * a - (1 - b) * (p * Dig.B) = p * n - p * Dig.B := by rw [e]; grind
  have e3 : p * n = p * x + p * 65536 - p * bw - p * y := by rw [hn]; grind
  have e4 : bw * p = p * bw := Int.mul_comm _ _
  have e5 : p * Dig.B = p * 65536 := rfl
  omega
theorem sub_last {S X Y : List Int} {i : Nat} {bw : Int} (hw : Dig.Wf S) (hl : S.length = i) (h : Dig.val S - bw * Dig.B ^ i = Dig.val (X.take i) - Dig.val (Y.take i)) (hx : X.length ≤ i) (hy : Y.length ≤ i) (hle : Dig.val Y ≤ Dig.val X) (h0 : 0 ≤ bw) :
    Dig.val S = Dig.val X - Dig.val Y := by
  rw [List.take_of_length_le hx, List.take_of_length_le hy] at h
  have h1 := Dig.val_lt hw
  rw [hl] at h1
  by_cases hb : bw = 0
  · subst hb; omega
  · have := Int.mul_le_mul_of_nonneg_right (show 1 ≤ bw by omega) (Int.le_of_lt (Dig.B_pow_pos i))
    omega
set_option maxHeartbeats 1000000 in
theorem minus (A1 A2 : Option Addr) (n1 c1 n2 c2 : Nat) (x y : Int) (w : World) (nx : 0 ≤ x) (ny : 0 ≤ y) (hyx : y ≤ x) (a1 : Arr w A1 n1 c1 (Dig.wd x)) (a2 : Arr w A2 n2 c2 (Dig.wd y)) (hn : n1 ≤ 1000000000) :
    Calls Tryz.prog 140 #[.slice A1 n1 c1, .slice A2 n2 c2] w fun e w' => ∃ A n c, e = .returned (.slice A n c) ∧ Own w' w.heap.size A n c (Dig.wd (x - y)) ∧ Below w.heap.size w w' := by
  have wX := Dig.wf_wd _ nx
  have wY := Dig.wf_wd _ ny
  have vX := Dig.val_wd _ nx
  have vY := Dig.val_wd _ ny
  have hll : (Dig.wd y).length ≤ (Dig.wd x).length := Dig.wd_length_le ny (Int.lt_of_le_of_lt hyx (Dig.lt_pow_of_wd_length nx (Nat.le_refl _)))
  generalize hXe : Dig.wd x = X at *
  generalize hYe : Dig.wd y = Y at *
  clear hXe hYe
  obtain rfl := a1.len
  obtain rfl := a2.len
  have hxy : Dig.val Y ≤ Dig.val X := by rw [vX, vY]; exact hyx
  rw [← vX, ← vY]
  clear vX vY nx ny hyx
  have cap1 := a1.cap
  have cap2 := a1.big
  have cap3 := a2.cap
  have cap4 := a2.big
  go_enter Tryz.func140, Tryz.ntmps140
  go_wp2
  go_loopw [5, 6, 7] (fun vs vc vi wr => ∃ (i : Nat) (cy : Int) (S : List Int), i ≤ X.length ∧ vi = .int .i64 i ∧ vc = .int .u64 cy ∧ 0 ≤ cy ∧ cy ≤ 1 ∧ S.length = i ∧ Dig.Wf S ∧ Hid (Dig.val S - cy * Dig.B ^ i = Dig.val (X.take i) - Dig.val (Y.take i)) ∧ wr.ownsRow w.heap.size 51 1 vs i (cellsOf S) ∧ Below w.heap.size w wr) (fun _ _ vi _ => X.length + 1 - (intOf vi).toNat)
  case atStart => exact ⟨0, 0, [], Nat.zero_le _, rfl, rfl, by omega, by omega, rfl, Dig.wf_nil, by show _ = _; simp [Dig.val], owns_nil w _, below_self w⟩
  case round =>
    obtain ⟨i, cy, S, hi, rfl, rfl, hc0, hc1, hlS, hwS, hv, ho, hW⟩ := hrel
    have xg := wX.getD i
    have yg := wY.getD i
    have hst := fun n hn => sub_step (n := n) hlS hv.out hn
    have zy : ¬ i < Y.length → Y.getD i 0 = 0 := fun hh => by rw [List.getD_eq_getElem?_getD, List.getElem?_eq_none (by omega)]; rfl
    have hwn : ∀ n : Int, Dig.Wf (S ++ [n % 65536]) := fun n => Dig.wf_append.2 ⟨hwS, Dig.wf_cons.2 ⟨by omega, Dig.wf_nil⟩⟩
    have a1' := a1.below hW
    have a2' := a2.below hW
    by_cases hx : i < X.length
    · obtain ⟨b, o, rfl, hlt, hc⟩ := a1'.mem (by omega)
      have k1 := hc i hx
      have d1 : decide ((i : Int) < X.length) = true := by simp; omega
      clear hc
      by_cases hy : i < Y.length
      · obtain ⟨b', o', rfl, hlt', hc'⟩ := a2'.mem (by omega)
        have k2 := hc' i hy
        have d2 : decide ((i : Int) < Y.length) = true := by simp; omega
        clear hc'
        generalize X.getD i 0 = x at *
        generalize Y.getD i 0 = y at *
        (have HST := Lib.hid (hst (x + 65536 - cy - y) (by omega)); have HWN := Lib.hid (hwn (x + 65536 - cy - y)); have t1 : (x + 65536 - cy - y).tmod 65536 = (x + 65536 - cy - y) % 65536 := Int.tmod_eq_emod_of_nonneg (by omega); have t2 : (x + 65536 - cy - y).tdiv 65536 = (x + 65536 - cy - y) / 65536 := Int.tdiv_eq_ediv_of_nonneg (by omega); clear hst hwn hv zy; go_wp2_with (at_builtin; refine wp_append rfl _ _ rfl w.heap.size _ i S rfl (ho.alloc _) _ 1 1 [(x + 65536 - cy - y) % 65536] rfl (arr_one rfl ((x + 65536 - cy - y) % 65536) (by omega) (by omega)) (i + 1) rfl (by omega) (by have := hW.size; simp; omega) ?_); intro v4 w4 ho4 hg4; have hb4 := own_push ho hW hg4; have HO := Lib.hid ho4; clear ho4; go_wp2; exact ⟨⟨i + 1, _, _, by omega, by go_num, rfl, by omega, by omega, by simp; omega, HWN.out, HST.out, HO.out, hb4⟩, by simp only [intOf]; omega⟩)
      · have d2 : decide ((i : Int) < Y.length) = false := by simp; omega
        have y0 := zy hy
        generalize X.getD i 0 = x at *
        generalize Y.getD i 0 = y at *
        subst y0
        (have HST := Lib.hid (hst (x + 65536 - cy) (by omega)); have HWN := Lib.hid (hwn (x + 65536 - cy)); have t1 : (x + 65536 - cy).tmod 65536 = (x + 65536 - cy) % 65536 := Int.tmod_eq_emod_of_nonneg (by omega); have t2 : (x + 65536 - cy).tdiv 65536 = (x + 65536 - cy) / 65536 := Int.tdiv_eq_ediv_of_nonneg (by omega); clear hst hwn hv zy; go_wp2_with (at_builtin; refine wp_append rfl _ _ rfl w.heap.size _ i S rfl (ho.alloc _) _ 1 1 [(x + 65536 - cy) % 65536] rfl (arr_one rfl ((x + 65536 - cy) % 65536) (by omega) (by omega)) (i + 1) rfl (by omega) (by have := hW.size; simp; omega) ?_); intro v4 w4 ho4 hg4; have hb4 := own_push ho hW hg4; have HO := Lib.hid ho4; clear ho4; go_wp2; exact ⟨⟨i + 1, _, _, by omega, by go_num, rfl, by omega, by omega, by simp; omega, HWN.out, HST.out, HO.out, hb4⟩, by simp only [intOf]; omega⟩)
    · have d1 : decide ((i : Int) < X.length) = false := by simp; omega
      have hl := sub_last hwS hlS hv.out (by omega) (by omega) hxy hc0
      have HL := Lib.hid hl
      clear hst hwn hv zy hl
      obtain ⟨A5, c5, rfl, hO⟩ := own_of_owns ho (dig_wf hwS)
      have C := Lib.hid (cut A5 _ c5 S wr hO.arr hwS)
      have hT := hO.take (Dig.wd (Dig.val S)).length (by have := Dig.wd_len hwS; omega)
      rw [Dig.wd_take hwS, HL.out] at hT
      rw [HL.out] at C
      go_wp2_with fail
      refine C.out.mono ?_; rintro r w' ⟨rfl, rfl⟩
      go_wp2
      go_ret
      exact ⟨A5, _, c5, rfl, hT, hW⟩
theorem rsub (A A' : Option Addr) (n c n' c' : Nat) (xs ys : List Int) (w : World) (h : Arr w A n c xs) (h' : Arr w A' n' c' ys) (hn : n ≤ 100000000) (hn' : n' ≤ 100000000) :
    Calls Tryz.prog 111 #[.slice A n c, .slice A' n' c'] w (RetS (val xs) (val ys) w) := by
  have hvx := h.val_nonneg
  have hvy := h'.val_nonneg
  have DX := Lib.hid (digits A n c xs w h hn)
  have DY := Lib.hid (fun w' (hb : Below w.heap.size w w') => digits A' n' c' ys w' (h'.below hb) hn')
  have lX : (Dig.wd (val xs)).length ≤ 4 * n := by
    have := Dig.wd_len (allD_wf xs)
    rw [allD_val h.wf, allD_length, h.len] at this; exact this
  have lX2 : ∀ z, 0 ≤ z → z ≤ val xs → (Dig.wd z).length ≤ 4 * n := fun z hz hzx => Nat.le_trans (Dig.wd_length_le hz (Int.lt_of_le_of_lt hzx (Dig.lt_pow_of_wd_length hvx (Nat.le_refl _)))) lX
  unfold RetS
  generalize val xs = x at *
  generalize val ys = y at *
  by_cases hv : y ≤ x
  · have hc : cmpI x y = 0 ∨ cmpI x y = 1 := by unfold cmpI; rw [if_neg (by omega)]; split <;> simp
    have hd : decide (y ≤ x) = true := decide_eq_true hv
    rw [if_pos hv, hd]
    clear hd
    go_enter Tryz.func111, Tryz.ntmps111
    go_wp2_with fail
    refine DX.out.mono ?_; rintro r w1 ⟨A1, n1, c1, rfl, hO1, hb1⟩
    have hn1 := hO1.len
    go_wp2_with fail
    refine (DY.out _ hb1).mono ?_; rintro r w2 ⟨A2, n2, c2, rfl, hO2, hb2⟩
    have hw2 := below_on hb1 hb2
    have a1 := hO1.arr.below hb2
    have a2 := hO2.arr
    have C := compare A1 A2 n1 c1 n2 c2 _ _ w2 hvx hvy a1 a2
    generalize cmpI x y = q at *
    have hq : decide (q < 0) = false := by simp; omega
    have HC := Lib.hid C
    clear C
    go_wp2_with fail
    refine HC.out.mono ?_; rintro r w3 ⟨rfl, hs⟩
    have hw3 := hw2.trans (hs.below _)
    go_wp2_with fail
    refine (minus A1 A2 n1 c1 n2 c2 x y w3 hvx hvy hv (a1.below (hs.below _)) (a2.below (hs.below _)) (by omega)).mono ?_
    rintro r w4 ⟨A4, n4, c4, rfl, hO4, hb4⟩
    have hw4 := below_on hw3 hb4
    have hl4 := lX2 (x - y) (by omega) (by omega)
    rw [hO4.len] at hl4
    have WW := words A4 n4 c4 _ w4 hO4.arr (Dig.wf_wd _ (by omega)) (by omega)
    rw [Dig.val_wd _ (by omega)] at WW
    have HW := Lib.hid WW
    clear WW
    go_wp2_with fail
    refine HW.out.mono ?_; rintro r w5 ⟨A5, n5, c5, rfl, hO5, hb5⟩
    go_wp2
    go_ret2
    exact ⟨A5, n5, c5, rfl, hO5.mono hw4.size, below_on hw4 hb5⟩
  · have hd : decide (y ≤ x) = false := decide_eq_false hv
    have hc : cmpI x y = -1 := by unfold cmpI; rw [if_pos (by omega)]
    rw [if_neg hv, hd]
    clear hd
    go_enter Tryz.func111, Tryz.ntmps111
    go_wp2_with fail
    refine DX.out.mono ?_; rintro r w1 ⟨A1, n1, c1, rfl, hO1, hb1⟩
    go_wp2_with fail
    refine (DY.out _ hb1).mono ?_; rintro r w2 ⟨A2, n2, c2, rfl, hO2, hb2⟩
    have hw2 := below_on hb1 hb2
    have C := compare A1 A2 n1 c1 n2 c2 _ _ w2 hvx hvy (hO1.arr.below hb2) hO2.arr
    rw [hc] at C
    have HC := Lib.hid C
    clear C
    go_wp2_with fail
    refine HC.out.mono ?_; rintro r w3 ⟨rfl, hs⟩
    have hw3 := hw2.trans (hs.below _)
    go_wp2_with fail
    go_ret2
    exact ⟨_, _, _, rfl, by rw [wd_zero (Int.le_refl _)]; exact Own.nil _ _ _ _ (by omega), hw3⟩
end Go.Proofs.YteffemhapnbaeaaGreatDoor
namespace Go.Proofs.YteffemhapnbaeaaGreatDoor
open Go.RowKit Num
set_option maxRecDepth 100000

end Go.Proofs.YteffemhapnbaeaaGreatDoor
namespace Go.Proofs.YteffemhapnbaeaaGreatDoor
open Go.RowKit Num
set_option maxRecDepth 100000

end Go.Proofs.YteffemhapnbaeaaGreatDoor
