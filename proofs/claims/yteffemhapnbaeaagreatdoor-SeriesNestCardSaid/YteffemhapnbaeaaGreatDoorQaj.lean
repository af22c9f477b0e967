/- Walks and laws that the claim's row needs. No conditions. -/
import Derived.Test.YteffemhapnbaeaaGreatDoorQai
import Derived.Test.YteffemhapnbaeaaGreatDoorQac
import Derived.Test.YteffemhapnbaeaaGreatDoorQaf
import Derived.Test.YteffemhapnbaeaaGreatDoorQae
import Derived.Test.YteffemhapnbaeaaGreatDoorQad
import Derived.Test.YteffemhapnbaeaaGreatDoorQah
import Derived.Test.YteffemhapnbaeaaGreatDoorQab
set_option maxHeartbeats 16000000
set_option linter.unusedSimpArgs false
set_option linter.unusedVariables false
namespace Go.Proofs.YteffemhapnbaeaaGreatDoor
open Go.RowKit Num
set_option maxRecDepth 100000
theorem Bex {S X Y : List Int} {i : Nat} {bw n : Int} (hl : S.length = i) (h : Dig.val S - bw * Dig.B ^ i = Dig.val (X.take i) - Dig.val (Y.take i)) (hn : n = X.getD i 0 + 65536 - bw - Y.getD i 0) :
  Dig.val (S ++ [n % 65536]) - (1 - n / 65536) * Dig.B ^ (i + 1) = Dig.val (X.take (i + 1)) - Dig.val (Y.take (i + 1)) := by
 rw [Kr, hl, Ks, Ks, Int.pow_succ]
 have e : n = n % 65536 + Dig.B * (n / 65536) := by rw [Dig.B_eq]; omega
 generalize Dig.B ^ i = p at *
 generalize X.getD i 0 = x at *
 generalize Y.getD i 0 = y at *
 generalize n % 65536 = a at *
 generalize n / 65536 = b at *
 have e2 : p * a - (1 - b) * (p * Dig.B) = p * n - p * Dig.B := by rw [e]; grind
 have e3 : p * n = p * x + p * 65536 - p * bw - p * y := by rw [hn]; grind
 have e4 : bw * p = p * bw := Int.mul_comm _ _
 have e5 : p * Dig.B = p * 65536 := rfl
 omega
theorem Bew {S X Y : List Int} {i : Nat} {bw : Int} (hw : Dig.Wf S) (hl : S.length = i) (h : Dig.val S - bw * Dig.B ^ i = Dig.val (X.take i) - Dig.val (Y.take i)) (hx : X.length ≤ i) (hy : Y.length ≤ i) (hle : Dig.val Y ≤ Dig.val X) (h0 : 0 ≤ bw) :
  Dig.val S = Dig.val X - Dig.val Y := by
 rw [List.take_of_length_le hx, List.take_of_length_le hy] at h
 have h1 := Dig.val_lt hw
 rw [hl] at h1
 by_cases hb : bw = 0
 ·subst hb; omega
 ·have := Int.mul_le_mul_of_nonneg_right (show 1 ≤ bw by omega) (Int.le_of_lt (Dig.B_pow_pos i))
  omega
theorem Bg2 (A1 A2 : Option Addr) (n1 c1 n2 c2 : Nat) (x y : Int) (w : World) (nx : 0 ≤ x) (ny : 0 ≤ y) (hyx : y ≤ x) (a1 : Arr w A1 n1 c1 (Dig.wd x)) (a2 : Arr w A2 n2 c2 (Dig.wd y)) (hn : n1 ≤ 1000000000) :
  Calls Tryz.prog 140 #[.slice A1 n1 c1, .slice A2 n2 c2] w fun e w' => ∃ A n c, e = .returned (.slice A n c) ∧ Own w' w.heap.size A n c (Dig.wd (x - y)) ∧ Below w.heap.size w w' := by
 have wX := Dig.wf_wd _ nx
 have wY := Dig.wf_wd _ ny
 have vX := Dig.val_wd _ nx
 have vY := Dig.val_wd _ ny
 have hll : (Dig.wd y).length ≤ (Dig.wd x).length := Dig.wd_length_le ny (Int.lt_of_le_of_lt hyx (Dig.lt_pow_of_wd_length nx (Nat.le_refl _)))
 generalize hXe : Dig.wd x = X at *
 generalize hYe : Dig.wd y = Y at *
 clear hXe hYe
 obtain rfl := a1.len
 obtain rfl := a2.len
 have hxy : Dig.val Y ≤ Dig.val X := by rw [vX, vY]; exact hyx
 rw [← vX, ← vY]
 clear vX vY nx ny hyx
 have cap1 := a1.cap
 have cap2 := a1.big
 have cap3 := a2.cap
 have cap4 := a2.big
 go_enter Tryz.func140, Tryz.ntmps140
 go_wp2
 go_loopw [5, 6, 7] (fun vs vc vi wr => ∃ (i : Nat) (cy : Int) (S : List Int), i ≤ X.length ∧ vi = .int .i64 i ∧ vc = .int .u64 cy ∧ 0 ≤ cy ∧ cy ≤ 1 ∧ S.length = i ∧ Dig.Wf S ∧ Hid (Dig.val S - cy * Dig.B ^ i = Dig.val (X.take i) - Dig.val (Y.take i)) ∧ wr.ownsRow w.heap.size 51 1 vs i (cellsOf S) ∧ Below w.heap.size w wr) (fun _ _ vi _ => X.length + 1 - (intOf vi).toNat)
 case atStart => exact ⟨0, 0, [], Nat.zero_le _, rfl, rfl, by omega, by omega, rfl, Dig.wf_nil, by show _ = _; simp [Dig.val], Hq w _, Bb w⟩
 case round =>
  obtain ⟨i, cy, S, hi, rfl, rfl, hc0, hc1, hlS, hwS, hv, ho, hW⟩ := hrel
  have xg := wX.getD i
  have yg := wY.getD i
  have hst := fun n hn => Bex (n := n) hlS hv.out hn
  have zy : ¬ i < Y.length → Y.getD i 0 = 0 := fun hh => by rw [List.getD_eq_getElem?_getD, List.getElem?_eq_none (by omega)]; rfl
  have hwn : ∀ n : Int, Dig.Wf (S ++ [n % 65536]) := fun n => Dig.wf_append.2 ⟨hwS, Dig.wf_cons.2 ⟨by omega, Dig.wf_nil⟩⟩
  have a1' := a1.below hW
  have a2' := a2.below hW
  by_cases hx : i < X.length
  ·obtain ⟨b, o, rfl, hlt, hc⟩ := a1'.mem (by omega)
   have k1 := hc i hx
   have d1 : decide ((i : Int) < X.length) = true := by simp; omega
   clear hc
   by_cases hy : i < Y.length
   ·obtain ⟨b', o', rfl, hlt', hc'⟩ := a2'.mem (by omega)
    have k2 := hc' i hy
    have d2 : decide ((i : Int) < Y.length) = true := by simp; omega
    clear hc'
    generalize X.getD i 0 = x at *
    generalize Y.getD i 0 = y at *
    (have HST := Be (hst (x + 65536 - cy - y) (by omega)); have HWN := Be (hwn (x + 65536 - cy - y)); have t1 : (x + 65536 - cy - y).tmod 65536 = (x + 65536 - cy - y) % 65536 := Int.tmod_eq_emod_of_nonneg (by omega); have t2 : (x + 65536 - cy - y).tdiv 65536 = (x + 65536 - cy - y) / 65536 := Int.tdiv_eq_ediv_of_nonneg (by omega); clear hst hwn hv zy; go_wp2_with (at_builtin; refine De rfl _ _ rfl w.heap.size _ i S rfl (ho.alloc _) _ 1 1 [(x + 65536 - cy - y) % 65536] rfl (Db rfl ((x + 65536 - cy - y) % 65536) (by omega) (by omega)) (i + 1) rfl (by omega) (by have := hW.size; simp; omega) ?_); intro v4 w4 ho4 hg4; have hb4 := Fy ho hW hg4; have HO := Be ho4; clear ho4; go_wp2; exact ⟨⟨i + 1, _, _, by omega, by go_num, rfl, by omega, by omega, by simp; omega, HWN.out, HST.out, HO.out, hb4⟩, by simp only [intOf]; omega⟩)
   ·have d2 : decide ((i : Int) < Y.length) = false := by simp; omega
    have y0 := zy hy
    generalize X.getD i 0 = x at *
    generalize Y.getD i 0 = y at *
    subst y0
    (have HST := Be (hst (x + 65536 - cy) (by omega)); have HWN := Be (hwn (x + 65536 - cy)); have t1 : (x + 65536 - cy).tmod 65536 = (x + 65536 - cy) % 65536 := Int.tmod_eq_emod_of_nonneg (by omega); have t2 : (x + 65536 - cy).tdiv 65536 = (x + 65536 - cy) / 65536 := Int.tdiv_eq_ediv_of_nonneg (by omega); clear hst hwn hv zy; go_wp2_with (at_builtin; refine De rfl _ _ rfl w.heap.size _ i S rfl (ho.alloc _) _ 1 1 [(x + 65536 - cy) % 65536] rfl (Db rfl ((x + 65536 - cy) % 65536) (by omega) (by omega)) (i + 1) rfl (by omega) (by have := hW.size; simp; omega) ?_); intro v4 w4 ho4 hg4; have hb4 := Fy ho hW hg4; have HO := Be ho4; clear ho4; go_wp2; exact ⟨⟨i + 1, _, _, by omega, by go_num, rfl, by omega, by omega, by simp; omega, HWN.out, HST.out, HO.out, hb4⟩, by simp only [intOf]; omega⟩)
  ·have d1 : decide ((i : Int) < X.length) = false := by simp; omega
   have hl := Bew hwS hlS hv.out (by omega) (by omega) hxy hc0
   have HL := Be hl
   clear hst hwn hv zy hl
   obtain ⟨A5, c5, rfl, hO⟩ := Dg ho (Sp hwS)
   have C := Be (cut A5 _ c5 S wr hO.arr hwS)
   have hT := hO.take (Dig.wd (Dig.val S)).length (by have := Dig.wd_len hwS; omega)
   rw [Dig.wd_take hwS, HL.out] at hT
   rw [HL.out] at C
   go_wp2_with fail
   refine C.out.mono ?_; rintro r w' ⟨rfl, rfl⟩
   go_wp2
   go_ret
   exact ⟨A5, _, c5, rfl, hT, hW⟩
theorem rsub (A A' : Option Addr) (n c n' c' : Nat) (xs ys : List Int) (w : World) (h : Arr w A n c xs) (h' : Arr w A' n' c' ys) (hn : n ≤ 100000000) (hn' : n' ≤ 100000000) :
  Calls Tryz.prog 111 #[.slice A n c, .slice A' n' c'] w (Ut (val xs) (val ys) w) := by
 have hvx := h.val_nonneg
 have hvy := h'.val_nonneg
 have DX := Be (Jd A n c xs w h hn)
 have DY := Be (fun w' (hb : Below w.heap.size w w') => Jd A' n' c' ys w' (h'.below hb) hn')
 have lX : (Dig.wd (val xs)).length ≤ 4 * n := by
  have := Dig.wd_len (Gh xs)
  rw [Gg h.wf, Fi, h.len] at this; exact this
 have lX2 : ∀ z, 0 ≤ z → z ≤ val xs → (Dig.wd z).length ≤ 4 * n := fun z hz hzx => Nat.le_trans (Dig.wd_length_le hz (Int.lt_of_le_of_lt hzx (Dig.lt_pow_of_wd_length hvx (Nat.le_refl _)))) lX
 unfold Ut
 generalize val xs = x at *
 generalize val ys = y at *
 by_cases hv : y ≤ x
 ·have hc : Cs x y = 0 ∨ Cs x y = 1 := by unfold Cs; rw [if_neg (by omega)]; split <;> simp
  have hd : decide (y ≤ x) = true := decide_eq_true hv
  rw [if_pos hv, hd]
  clear hd
  go_enter Tryz.func111, Tryz.ntmps111
  go_wp2_with fail
  refine DX.out.mono ?_; rintro r w1 ⟨A1, n1, c1, rfl, hO1, hb1⟩
  have hn1 := hO1.len
  go_wp2_with fail
  refine (DY.out _ hb1).mono ?_; rintro r w2 ⟨A2, n2, c2, rfl, hO2, hb2⟩
  have hw2 := Bc hb1 hb2
  have a1 := hO1.arr.below hb2
  have a2 := hO2.arr
  have C := Rr A1 A2 n1 c1 n2 c2 _ _ w2 hvx hvy a1 a2
  generalize Cs x y = q at *
  have hq : decide (q < 0) = false := by simp; omega
  have HC := Be C
  clear C
  go_wp2_with fail
  refine HC.out.mono ?_; rintro r w3 ⟨rfl, hs⟩
  have hw3 := hw2.trans (hs.below _)
  go_wp2_with fail
  refine (Bg2 A1 A2 n1 c1 n2 c2 x y w3 hvx hvy hv (a1.below (hs.below _)) (a2.below (hs.below _)) (by omega)).mono ?_
  rintro r w4 ⟨A4, n4, c4, rfl, hO4, hb4⟩
  have hw4 := Bc hw3 hb4
  have hl4 := lX2 (x - y) (by omega) (by omega)
  rw [hO4.len] at hl4
  have WW := words A4 n4 c4 _ w4 hO4.arr (Dig.wf_wd _ (by omega)) (by omega)
  rw [Dig.val_wd _ (by omega)] at WW
  have HW := Be WW
  clear WW
  go_wp2_with fail
  refine HW.out.mono ?_; rintro r w5 ⟨A5, n5, c5, rfl, hO5, hb5⟩
  go_wp2
  go_ret2
  exact ⟨A5, n5, c5, rfl, hO5.mono hw4.size, Bc hw4 hb5⟩
 ·have hd : decide (y ≤ x) = false := decide_eq_false hv
  have hc : Cs x y = -1 := by unfold Cs; rw [if_pos (by omega)]
  rw [if_neg hv, hd]
  clear hd
  go_enter Tryz.func111, Tryz.ntmps111
  go_wp2_with fail
  refine DX.out.mono ?_; rintro r w1 ⟨A1, n1, c1, rfl, hO1, hb1⟩
  go_wp2_with fail
  refine (DY.out _ hb1).mono ?_; rintro r w2 ⟨A2, n2, c2, rfl, hO2, hb2⟩
  have hw2 := Bc hb1 hb2
  have C := Rr A1 A2 n1 c1 n2 c2 _ _ w2 hvx hvy (hO1.arr.below hb2) hO2.arr
  rw [hc] at C
  have HC := Be C
  clear C
  go_wp2_with fail
  refine HC.out.mono ?_; rintro r w3 ⟨rfl, hs⟩
  have hw3 := hw2.trans (hs.below _)
  go_wp2_with fail
  go_ret2
  exact ⟨_, _, _, rfl, by rw [wd_zero (Int.le_refl _)]; exact Own.nil _ _ _ _ (by omega), hw3⟩
theorem Zs {S Y : List Int} {i : Nat} {cy d n : Int} (hl : S.length = i) (h : Dig.val S + cy * Dig.B ^ i = Dig.val (Y.take i) * d) (hn : n = Y.getD i 0 * d + cy) :
  Dig.val (S ++ [n % 65536]) + n / 65536 * Dig.B ^ (i + 1) = Dig.val (Y.take (i + 1)) * d := by
 rw [Kr, hl, Ks, Int.pow_succ]
 have e : n = n % 65536 + Dig.B * (n / 65536) := by rw [Dig.B_eq]; omega
 generalize Dig.B ^ i = p at *
 generalize n % 65536 = a at *
 generalize n / 65536 = b at *
 generalize Y.getD i 0 = y at *
 have e2 : p * a + b * (p * Dig.B) = p * n := by rw [e]; grind
 have e3 : p * n = p * (y * d) + cy * p := by rw [hn]; grind
 have e4 : (Dig.val (Y.take i) + p * y) * d = Dig.val (Y.take i) * d + p * (y * d) := by grind
 omega
theorem Zr {S Y : List Int} {i : Nat} {cy d : Int} (hl : S.length = i) (h : Dig.val S + cy * Dig.B ^ i = Dig.val (Y.take i) * d) (hi : Y.length ≤ i) : Dig.val (S ++ [cy]) = Dig.val Y * d := by
 rw [List.take_of_length_le hi] at h
 rw [Kr, hl, ← h, Int.mul_comm]
theorem Bgi (A : Option Addr) (n c : Nat) (y d : Int) (w : World) (ny : 0 ≤ y) (hd0 : 0 ≤ d) (hd : d ≤ 65536) (a : Arr w A n c (Dig.wd y)) (hn : n ≤ 1000000000) :
  Calls Tryz.prog 139 #[.slice A n c, .int .u64 d] w fun e w' => ∃ A' n' c', e = .returned (.slice A' n' c') ∧ Own w' w.heap.size A' n' c' (Dig.wd (y * d)) ∧ Below w.heap.size w w' := by
 have wY := Dig.wf_wd _ ny
 have vY := Dig.val_wd _ ny
 generalize hYe : Dig.wd y = Y at *
 clear hYe
 rw [← vY]
 clear vY ny
 obtain rfl := a.len
 have cap1 := a.cap
 have cap2 := a.big
 go_enter Tryz.func139, Tryz.ntmps139
 go_wp2
 go_loopw [5, 6, 7] (fun vs vc vi wr => ∃ (i : Nat) (cy : Int) (S : List Int), i ≤ Y.length ∧ vi = .int .i64 i ∧ vc = .int .u64 cy ∧ 0 ≤ cy ∧ cy ≤ 65535 ∧ S.length = i ∧ Dig.Wf S ∧ Hid (Dig.val S + cy * Dig.B ^ i = Dig.val (Y.take i) * d) ∧ wr.ownsRow w.heap.size 51 1 vs i (cellsOf S) ∧ Below w.heap.size w wr) (fun _ _ vi _ => Y.length + 1 - (intOf vi).toNat)
 case atStart => exact ⟨0, 0, [], Nat.zero_le _, rfl, rfl, by omega, by omega, rfl, Dig.wf_nil, by show _ = _; simp [Dig.val], Hq w _, Bb w⟩
 case round =>
  obtain ⟨i, cy, S, hi, rfl, rfl, hc0, hc1, hlS, hwS, hv, ho, hW⟩ := hrel
  by_cases hx : i < Y.length
  ·have yg := wY.getD i
   have hst := fun n hn => Zs (n := n) hlS hv.out hn
   have hwn : ∀ n : Int, Dig.Wf (S ++ [n % 65536]) := fun n => Dig.wf_append.2 ⟨hwS, Dig.wf_cons.2 ⟨by omega, Dig.wf_nil⟩⟩
   obtain ⟨b, o, rfl, hlt, hc⟩ := (a.below hW).mem (by omega)
   have k1 := hc i hx
   clear hc
   generalize Y.getD i 0 = x at *
   have p1 : x * d ≤ 65535 * d := Int.mul_le_mul_of_nonneg_right (by omega) hd0
   have p2 : 0 ≤ x * d := Int.mul_nonneg yg.1 hd0
   have q1 := Mm (x := x * d) p2 (by omega)
   have q2 := Mm (x := x * d + cy) (by omega) (by omega)
   have HST := Be (hst (x * d + cy) rfl)
   have HWN := Be (hwn (x * d + cy))
   have t1 : (x * d + cy).tmod 65536 = (x * d + cy) % 65536 := Int.tmod_eq_emod_of_nonneg (by omega)
   have t2 : (x * d + cy).tdiv 65536 = (x * d + cy) / 65536 := Int.tdiv_eq_ediv_of_nonneg (by omega)
   have u1 : 0 ≤ (x * d + cy) / 65536 ∧ (x * d + cy) / 65536 ≤ 65535 := by omega
   have u2 : 0 ≤ (x * d + cy) % 65536 ∧ (x * d + cy) % 65536 < 65536 := by omega
   clear hst hwn hv
   go_wp2_with (at_builtin; refine De rfl _ _ rfl w.heap.size _ i S rfl (ho.alloc _) _ 1 1 [(x * d + cy) % 65536] rfl (Db rfl ((x * d + cy) % 65536) (by omega) (by omega)) (i + 1) rfl (by omega) (by have := hW.size; simp; omega) ?_)
   intro v4 w4 ho4 hg4
   have hb4 := Fy ho hW hg4
   have HO := Be ho4
   clear ho4
   go_wp2
   exact ⟨⟨i + 1, _, _, by omega, by go_num, rfl, u1.1, u1.2, by simp; omega, HWN.out, HST.out, HO.out, hb4⟩, by simp only [intOf]; omega⟩
  ·obtain rfl : i = Y.length := by omega
   have hl := Zr hlS hv.out (Nat.le_refl _)
   have HL := Be hl
   have hw5 : Dig.Wf (S ++ [cy]) := Dig.wf_append.2 ⟨hwS, Dig.wf_cons.2 ⟨by omega, Dig.wf_nil⟩⟩
   clear hl hv
   go_wp2_with (at_builtin; refine De rfl _ _ rfl w.heap.size _ Y.length S rfl (ho.alloc _) _ 1 1 [cy] rfl (Db rfl cy (by omega) (by omega)) (Y.length + 1) rfl (by omega) (by have := hW.size; simp; omega) ?_)
   intro v4 w4 ho4 hg4
   have hb4 := Fy ho hW hg4
   obtain ⟨A5, c5, rfl, hO⟩ := Dg ho4 (Sp hw5)
   have C := Be (cut A5 _ c5 _ w4 hO.arr hw5)
   have hT := hO.take (Dig.wd (Dig.val (S ++ [cy]))).length (by have := Dig.wd_len hw5; rw [hO.len] at this; exact this)
   rw [Dig.wd_take hw5, HL.out] at hT
   rw [HL.out] at C
   clear ho4 hO
   go_wp2_with fail
   refine C.out.mono ?_; rintro r w' ⟨rfl, rfl⟩
   go_wp2
   go_ret
   exact ⟨A5, _, c5, rfl, hT, hb4⟩
def ovf (L : List Int) (n : Nat) : Nat → Int
 | 0 => 0
 | j + 1 => ovf L n j * 65536 + (if j ≤ n then L.getD (n - j) 0 else 0)
theorem Qr {L : List Int} (h : Dig.Wf L) (n : Nat) : (0 ≤ ovf L n 0 ∧ ovf L n 0 < 1) ∧ (0 ≤ ovf L n 1 ∧ ovf L n 1 < 65536) ∧ (0 ≤ ovf L n 2 ∧ ovf L n 2 < 4294967296) ∧ (0 ≤ ovf L n 3 ∧ ovf L n 3 < 281474976710656) := by
 have a := h.getD (n - 0)
 have b := h.getD (n - 1)
 have c := h.getD (n - 2)
 simp only [ovf]
 split <;> split <;> split <;> omega
theorem Uy {L : List Int} (h : Dig.Wf L) (n : Nat) (hn : 2 ≤ n) : ovf L n 3 * Dig.B ^ (n - 2) ≤ Dig.val L := by
 have e : ∀ i, Dig.val (L.drop i) = L.getD i 0 + Dig.B * Dig.val (L.drop (i + 1)) := fun i => by
  by_cases hi : i < L.length
  ·rw [List.drop_eq_getElem_cons hi, Dig.val_cons, List.getD_eq_getElem?_getD, List.getElem?_eq_getElem hi]; rfl
  ·rw [List.drop_eq_nil_of_le (by omega), List.drop_eq_nil_of_le (by omega), List.getD_eq_getElem?_getD, List.getElem?_eq_none (by omega)]; rfl
 have e0 : Dig.B ^ (n - 2) * Dig.val (L.drop (n - 2)) ≤ Dig.val L := by
  rw [Dig.val_drop h]
  exact Int.mul_ediv_self_le (by have := Dig.B_pow_pos (n - 2); omega)
 have e1 := e (n - 2)
 have e2 := e (n - 1)
 have e3 := e n
 rw [show n - 2 + 1 = n - 1 from by omega] at e1
 rw [show n - 1 + 1 = n from by omega] at e2
 have h4 := Dig.val_nonneg (h.drop (n + 1))
 have e5 : ovf L n 3 ≤ Dig.val (L.drop (n - 2)) := by
  simp only [ovf]
  rw [if_pos (by omega), if_pos (by omega), if_pos (by omega), Nat.sub_zero]
  rw [Dig.B_eq] at *
  omega
 have := Int.mul_le_mul_of_nonneg_left e5 (Int.le_of_lt (Dig.B_pow_pos (n - 2)))
 rw [Int.mul_comm (ovf L n 3)]
 omega
theorem Yw {L Y : List Int} {n : Nat} (hL : Dig.Wf L) (hY : Dig.Wf Y) (hn : Y.length = n) (h1 : 1 ≤ n) :
  ovf L n 3 / (Y.getD (n - 1) 0 * 65536 + (if 2 ≤ n then Y.getD (n - 2) 0 else 0) + 1) * Dig.val Y ≤ Dig.val L := by
 have a1 := hY.getD (n - 1)
 have a2 := hY.getD (n - 2)
 have o3 := (Qr hL n).2.2.2
 by_cases h2 : 2 ≤ n
 ·rw [if_pos h2]
  have h3 := Uy hL n h2
  have hy : Dig.val Y < (Y.getD (n - 1) 0 * 65536 + Y.getD (n - 2) 0 + 1) * Dig.B ^ (n - 2) := by
   have e1 := Dig.val_take_drop Y (n - 2) (by omega)
   have e2 : Y.drop (n - 2) = [Y.getD (n - 2) 0, Y.getD (n - 1) 0] := by
    rw [List.drop_eq_getElem_cons (by omega), show n - 2 + 1 = n - 1 from by omega, List.drop_eq_getElem_cons (by omega), List.drop_eq_nil_of_le (by omega)]
    simp only [List.getD_eq_getElem?_getD, List.getElem?_eq_getElem (show n - 2 < Y.length by omega), List.getElem?_eq_getElem (show n - 1 < Y.length by omega)]
    rfl
   have e3 := Dig.val_lt (hY.take (n - 2))
   rw [List.length_take, Nat.min_eq_left (by omega)] at e3
   rw [e1, e2]
   simp only [Dig.val]
   have e4 : (Y.getD (n - 1) 0 * 65536 + Y.getD (n - 2) 0 + 1) * Dig.B ^ (n - 2) = Dig.B ^ (n - 2) * (Y.getD (n - 2) 0 + Dig.B * (Y.getD (n - 1) 0 + Dig.B * 0)) + Dig.B ^ (n - 2) := by rw [Dig.B_eq]; grind
   omega
  have ht : 0 < Y.getD (n - 1) 0 * 65536 + Y.getD (n - 2) 0 + 1 := by omega
  generalize Y.getD (n - 1) 0 * 65536 + Y.getD (n - 2) 0 + 1 = t at *
  have q0 : 0 ≤ ovf L n 3 / t := Int.ediv_nonneg o3.1 (by omega)
  have q1 := Int.ediv_mul_le (ovf L n 3) (b := t) (by omega)
  have m1 : ovf L n 3 / t * Dig.val Y ≤ ovf L n 3 / t * (t * Dig.B ^ (n - 2)) := Int.mul_le_mul_of_nonneg_left (by omega) q0
  have m2 : ovf L n 3 / t * t * Dig.B ^ (n - 2) ≤ ovf L n 3 * Dig.B ^ (n - 2) := Int.mul_le_mul_of_nonneg_right q1 (Int.le_of_lt (Dig.B_pow_pos _))
  rw [Int.mul_assoc] at m2
  omega
 ·rw [if_neg h2]
  obtain rfl : n = 1 := by omega
  have e1 : Dig.val Y = Y.getD 0 0 := by
   obtain ⟨y, rfl⟩ := List.length_eq_one_iff.1 hn
   simp [Dig.val]
  have e2 : ovf L 1 3 = (L.getD 1 0 * 65536 + L.getD 0 0) * 65536 := by simp [ovf]
  have e3 : L.getD 1 0 * 65536 + L.getD 0 0 ≤ Dig.val L := by
   rcases L with _ | ⟨x, _ | ⟨z, L⟩⟩
   ·simp [Dig.val]
   ·simp [Dig.val]
   ·have := Dig.val_nonneg (Dig.wf_cons.1 (Dig.wf_cons.1 hL).2).2
    simp only [Dig.val, List.getD_cons_zero, List.getD_cons_succ, Dig.B_eq]
    omega
  rw [e1, e2]
  simp only [Nat.sub_self] at *
  generalize Y.getD 0 0 = y at *
  rw [e2] at o3
  generalize L.getD 1 0 * 65536 + L.getD 0 0 = l at *
  have q0 : 0 ≤ l * 65536 / (y * 65536 + 0 + 1) := Int.ediv_nonneg o3.1 (by omega)
  have q1 := Int.ediv_mul_le (l * 65536) (b := y * 65536 + 0 + 1) (by omega)
  generalize l * 65536 / (y * 65536 + 0 + 1) = q at *
  have e5 : q * (y * 65536 + 0 + 1) = q * y * 65536 + q := by grind
  omega
theorem Ug {q y l : Int} (hy : 0 ≤ y) (hq : 0 ≤ q) (h : q * y ≤ l) : 0 ≤ min q 65535 ∧ min q 65535 ≤ 65535 ∧ min q 65535 * y ≤ l := by
 have : min q 65535 * y ≤ q * y := Int.mul_le_mul_of_nonneg_right (by omega) hy
 omega
theorem guess (A1 A2 : Option Addr) (n1 c1 n2 c2 : Nat) (l y : Int) (w : World) (nl : 0 ≤ l) (hy : 0 < y) (a1 : Arr w A1 n1 c1 (Dig.wd l)) (a2 : Arr w A2 n2 c2 (Dig.wd y)) (hn : n1 ≤ 1000000000) (hn2 : n2 ≤ 1000000000) :
  Calls Tryz.prog 138 #[.slice A1 n1 c1, .slice A2 n2 c2] w fun e w' => ∃ g : Int, e = .returned (.int .u64 g) ∧ 0 ≤ g ∧ g ≤ 65535 ∧ g * y ≤ l ∧ w = w' := by
 have wX := Dig.wf_wd _ nl
 have wY := Dig.wf_wd y (by omega)
 have vX := Dig.val_wd _ nl
 have vY := Dig.val_wd y (by omega)
 have hY1 : 0 < (Dig.wd y).length := List.length_pos_iff.2 (Dig.wd_ne_nil hy)
 generalize Dig.wd l = X at *
 generalize Dig.wd y = Y at *
 obtain rfl := a1.len
 obtain rfl := a2.len
 have hg := Yw (n := Y.length) wX wY rfl hY1
 rw [vX, vY] at hg
 have HO := Be (Qr wX Y.length)
 have o3 := (Qr wX Y.length).2.2.2
 have t1 := wY.getD (Y.length - 1)
 have t2 := wY.getD (Y.length - 2)
 have hV : ∀ j : Nat, ovf X Y.length (j + 1) = ovf X Y.length j * 65536 + (if j ≤ Y.length then X.getD (Y.length - j) 0 else 0) := fun j => rfl
 have HV := Be hV
 clear hV
 have hX0 : ∀ k, X.length ≤ k → X.getD k 0 = 0 := fun k hk => by rw [List.getD_eq_getElem?_getD, List.getElem?_eq_none hk]; rfl
 have HX0 := Be hX0
 have HWX := Be wX
 obtain ⟨b2, o2, rfl, hlt2, hc2⟩ := a2.mem (by omega)
 have k1 := hc2 (Y.length - 1) (by omega)
 have k2 : 2 ≤ Y.length → w.cell? ⟨b2, o2 + (Y.length - 2), none⟩ = some (.int .u64 (Y.getD (Y.length - 2) 0)) := fun h => hc2 _ (by omega)
 have K2 := Be k2
 clear hc2 vX vY hX0 k2 wX wY
 generalize Y.getD (Y.length - 1) 0 = yt at *
 generalize Y.getD (Y.length - 2) 0 = yn at *
 by_cases h2 : 2 ≤ Y.length
 ·have k2 := K2.out h2
  rw [if_pos h2] at hg
  have tp : 0 < yt * 65536 + yn + 1 := by omega
  have q0 : 0 ≤ ovf X Y.length 3 / (yt * 65536 + yn + 1) := Int.ediv_nonneg o3.1 (by omega)
  have HG := Be (Ug (by omega) q0 hg)
  have td : (ovf X Y.length 3).tdiv (yt * 65536 + yn + 1) = ovf X Y.length 3 / (yt * 65536 + yn + 1) := Int.tdiv_eq_ediv_of_nonneg o3.1
  have qw := Mm q0 (Int.lt_of_le_of_lt (Int.ediv_le_self _ o3.1) (by omega))
  have dd : decide ((Y.length : Int) > 1) = true := by simp; omega
  clear hg
  go_enter Tryz.func138, Tryz.ntmps138
  go_wp2_with fail
  (go_loop [7, 8] (fun vo vi => ∃ j : Nat, j ≤ 3 ∧ vi = .int .i64 ((Y.length : Int) - j) ∧ vo = .int .u64 (ovf X Y.length j)) (fun _ vi => (intOf vi - Y.length + 4).toNat); (case atStart => exact ⟨0, by omega, by simp, rfl⟩); (case round => obtain ⟨j, hj, rfl, rfl⟩ := hrel; by_cases hj3 : j < 3; (· have hov : 0 ≤ ovf X Y.length j ∧ ovf X Y.length j < 4294967296 := (by have := HO.out; have hj4 : j = 0 ∨ j = 1 ∨ j = 2 := (by omega); rcases hj4 with rfl | rfl | rfl <;> omega); have hnx := HV.out j; by_cases hjn : j ≤ Y.length; (· rw [if_pos hjn] at hnx; obtain ⟨k, hk⟩ : ∃ k : Nat, Y.length - j = k := ⟨_, rfl⟩; have hki : (Y.length : Int) - j = (k : Int) := (by omega); rw [hk] at hnx; rw [hki]; have xg := HWX.out.getD k; by_cases hkx : k < X.length; (· obtain ⟨b, o, rfl, hlt, hc⟩ := a1.mem (by omega); have c1' := hc k hkx; have dk : decide ((k : Int) < X.length) = true := (by simp; omega); generalize X.getD k 0 = x at *; have HN := Be hnx; clear hc hnx hk; generalize ovf X Y.length j = ov at *; go_wp2_with fail; exact ⟨⟨j + 1, by omega, by (refine congrArg _ ?_; omega), by rw [HN.out]⟩, by simp only [intOf]; omega⟩); (· have dk : decide ((k : Int) < X.length) = false := (by simp; omega); rw [HX0.out k (by omega)] at hnx; have HN := Be hnx; clear hnx hk; generalize ovf X Y.length j = ov at *; go_wp2_with fail; exact ⟨⟨j + 1, by omega, by go_num, by (rw [HN.out]; try simp)⟩, by simp only [intOf]; omega⟩)); (· rw [if_neg hjn] at hnx; have dk : decide ((Y.length : Int) - j ≥ 0) = false := (decide_eq_false (by omega)); have HN := Be hnx; clear hnx; generalize ovf X Y.length j = ov at *; go_wp2_with fail; all_goals exact ⟨⟨j + 1, by omega, by (first | rfl | go_num | (refine congrArg _ ?_; omega)), by (rw [HN.out]; try simp)⟩, by simp only [intOf]; omega⟩)); (· obtain rfl : j = 3 := (by omega); generalize ovf X Y.length 3 = o3v at *; go_wp2_with fail; go_ret; exact ⟨_, rfl, HG.out.1, HG.out.2.1, HG.out.2.2, rfl⟩)))
 ·have dd : decide ((Y.length : Int) > 1) = false := by simp; omega
  rw [if_neg h2] at hg
  have tp : 0 < yt * 65536 + 1 := by omega
  have e0 : yt * 65536 + 0 + 1 = yt * 65536 + 1 := by omega
  rw [e0] at hg
  have q0 : 0 ≤ ovf X Y.length 3 / (yt * 65536 + 1) := Int.ediv_nonneg o3.1 (by omega)
  have HG := Be (Ug (by omega) q0 hg)
  have td : (ovf X Y.length 3).tdiv (yt * 65536 + 1) = ovf X Y.length 3 / (yt * 65536 + 1) := Int.tdiv_eq_ediv_of_nonneg o3.1
  have qw := Mm q0 (Int.lt_of_le_of_lt (Int.ediv_le_self _ o3.1) (by omega))
  clear hg e0
  go_enter Tryz.func138, Tryz.ntmps138
  go_wp2_with fail
  (go_loop [7, 8] (fun vo vi => ∃ j : Nat, j ≤ 3 ∧ vi = .int .i64 ((Y.length : Int) - j) ∧ vo = .int .u64 (ovf X Y.length j)) (fun _ vi => (intOf vi - Y.length + 4).toNat); (case atStart => exact ⟨0, by omega, by simp, rfl⟩); (case round => obtain ⟨j, hj, rfl, rfl⟩ := hrel; by_cases hj3 : j < 3; (· have hov : 0 ≤ ovf X Y.length j ∧ ovf X Y.length j < 4294967296 := (by have := HO.out; have hj4 : j = 0 ∨ j = 1 ∨ j = 2 := (by omega); rcases hj4 with rfl | rfl | rfl <;> omega); have hnx := HV.out j; by_cases hjn : j ≤ Y.length; (· rw [if_pos hjn] at hnx; obtain ⟨k, hk⟩ : ∃ k : Nat, Y.length - j = k := ⟨_, rfl⟩; have hki : (Y.length : Int) - j = (k : Int) := (by omega); rw [hk] at hnx; rw [hki]; have xg := HWX.out.getD k; by_cases hkx : k < X.length; (· obtain ⟨b, o, rfl, hlt, hc⟩ := a1.mem (by omega); have c1' := hc k hkx; have dk : decide ((k : Int) < X.length) = true := (by simp; omega); generalize X.getD k 0 = x at *; have HN := Be hnx; clear hc hnx hk; generalize ovf X Y.length j = ov at *; go_wp2_with fail; exact ⟨⟨j + 1, by omega, by (refine congrArg _ ?_; omega), by rw [HN.out]⟩, by simp only [intOf]; omega⟩); (· have dk : decide ((k : Int) < X.length) = false := (by simp; omega); rw [HX0.out k (by omega)] at hnx; have HN := Be hnx; clear hnx hk; generalize ovf X Y.length j = ov at *; go_wp2_with fail; exact ⟨⟨j + 1, by omega, by go_num, by (rw [HN.out]; try simp)⟩, by simp only [intOf]; omega⟩)); (· rw [if_neg hjn] at hnx; have dk : decide ((Y.length : Int) - j ≥ 0) = false := (decide_eq_false (by omega)); have HN := Be hnx; clear hnx; generalize ovf X Y.length j = ov at *; go_wp2_with fail; all_goals exact ⟨⟨j + 1, by omega, by (first | rfl | go_num | (refine congrArg _ ?_; omega)), by (rw [HN.out]; try simp)⟩, by simp only [intOf]; omega⟩)); (· obtain rfl : j = 3 := (by omega); generalize ovf X Y.length 3 = o3v at *; go_wp2_with fail; go_ret; exact ⟨_, rfl, HG.out.1, HG.out.2.1, HG.out.2.2, rfl⟩)))
theorem Lu {X : List Int} {i : Nat} (hi : i < X.length) : Dig.val (X.drop i) = X.getD i 0 + 65536 * Dig.val (X.drop (i + 1)) := by
 rw [List.drop_eq_getElem_cons hi, Dig.val_cons, List.getD_eq_getElem?_getD, List.getElem?_eq_getElem hi]; rfl
theorem Zl {X : List Int} {i : Nat} {y : Int} (hi : i < X.length) (hy : 0 < y) :
  Dig.val (X.drop i) / y = (X.getD i 0 + 65536 * (Dig.val (X.drop (i + 1)) % y)) / y + 65536 * (Dig.val (X.drop (i + 1)) / y) ∧
  Dig.val (X.drop i) % y = (X.getD i 0 + 65536 * (Dig.val (X.drop (i + 1)) % y)) % y := by
 rw [Lu hi]
 have h1 := Uz (Dig.val (X.drop (i + 1))) (X.getD i 0) 65536 hy
 have h2 := Vf (Dig.val (X.drop (i + 1))) (X.getD i 0) 65536 y
 generalize Dig.val (X.drop (i + 1)) = v at *
 generalize X.getD i 0 = x at *
 have e1 : v * 65536 + x = x + 65536 * v := by omega
 have e2 : v % y * 65536 + x = x + 65536 * (v % y) := by omega
 rw [e1, e2] at h1 h2
 exact ⟨by rw [h1]; omega, h2⟩
theorem Zj {x L y : Int} (hx0 : 0 ≤ x) (hx : x < 65536) (hL0 : 0 ≤ L) (hL : L < y) : 0 ≤ (x + 65536 * L) / y ∧ (x + 65536 * L) / y < 65536 := by
 refine ⟨Int.ediv_nonneg (by omega) (by omega), Int.ediv_lt_of_lt_mul (by omega) (by omega)⟩
theorem Zk {l v y : Int} (hy : 0 < y) (h0 : l * y ≤ v) (h1 : v < y * (l + 1)) : v / y = l ∧ v % y = v - y * l := by
 have e : v / y = l := by
  have a := Int.le_ediv_of_mul_le hy h0
  have b := Int.ediv_lt_of_lt_mul hy (by rw [Int.mul_comm]; exact h1 : v < (l + 1) * y)
  omega
 refine ⟨e, ?_⟩
 rw [Int.emod_def, e]
theorem Ux {Q : List Int} {i : Nat} (hi : i < Q.length) (d : Int) : Dig.val ((Q.set i d).drop i) = d + 65536 * Dig.val (Q.drop (i + 1)) := by
 rw [Lu (by rw [List.length_set]; exact hi), getD_set_same _ _ _ hi]
 congr 3
 rw [List.drop_set_of_lt (by omega)]
theorem Bdo {w : World} {base g : Nat} (hg : g = w.heap.size) (hb : base ≤ w.heap.size) (x : Int) : (w.alloc (.cells #[.int .u64 x] 51)).ownsRow base 51 1 (.slice (some ⟨g, 0, none⟩) 1 1) 1 (cellsOf [x]) := by
 subst hg; exact World.ownsRow_lit w #[.int .u64 x] 1 hb (by decide) (by simp)
theorem Ys {a b : Int} {k : Nat} (h0 : 0 ≤ a) (h : a ≤ b) (hb : (Dig.wd b).length ≤ k) : (Dig.wd a).length ≤ k :=
 Dig.wd_length_le h0 (Int.lt_of_le_of_lt h (Dig.lt_pow_of_wd_length (by omega) hb))
theorem Bfp (A A' : Option Addr) (n c n' c' : Nat) (xs ys : List Int) (w : World) (h : Arr w A n c xs) (h' : Arr w A' n' c' ys) (hn : n ≤ 10000000) (hn' : n' ≤ 10000000) :
  Calls Tryz.prog 104 #[.slice A n c, .slice A' n' c'] w (Jh (val xs) (val ys) w) := by
 have hvx := h.val_nonneg
 have hvy := h'.val_nonneg
 have DX := Be (Jd A n c xs w h (by omega))
 have DY := Be (fun w' (hb : Below w.heap.size w w') => Jd A' n' c' ys w' (h'.below hb) (by omega))
 have lX : (Dig.wd (val xs)).length ≤ 4 * n := by
  have := Dig.wd_len (Gh xs)
  rw [Gg h.wf, Fi, h.len] at this; exact this
 have lY : (Dig.wd (val ys)).length ≤ 4 * n' := by
  have := Dig.wd_len (Gh ys)
  rw [Gg h'.wf, Fi, h'.len] at this; exact this
 by_cases h0 : val ys = 0
 ·have e0 : Dig.wd (val ys) = [] := by rw [h0]; exact Dig.wd_zero (Int.le_refl _)
  have e1 : wd (Rl (val xs) (val ys)) = [] := by unfold Rl; rw [if_pos h0]; exact wd_zero (Int.le_refl _)
  have e2 : wd (Rm (val xs) (val ys)) = [] := by unfold Rm; rw [if_pos h0]; exact wd_zero (Int.le_refl _)
  have e3 : decide (0 < val ys) = false := by simp; omega
  unfold Jh
  rw [e1, e2, e3]
  rw [e0] at DY
  clear e0 e1 e2 e3 h0
  go_enter Tryz.func104, Tryz.ntmps104
  go_wp2_with fail
  refine DX.out.mono ?_; rintro r w1 ⟨A1, n1, c1, rfl, hO1, hb1⟩
  go_wp2_with fail
  refine (DY.out _ hb1).mono ?_; rintro r w2 ⟨A2, n2, c2, rfl, hO2, hb2⟩
  obtain rfl : n2 = 0 := hO2.len.symm
  have hw2 := Bc hb1 hb2
  go_wp2_with fail
  refine bodyPost_ret (v := .tuple #[.slice none 0 0, .slice none 0 0, .bool false]) (by simp [results, Tryz.results104, go_sem]) rfl ?_
  exact ⟨none, 0, 0, none, 0, 0, rfl, Arr.nothing _, Arr.nothing _, hw2⟩
 ·have hp : 0 < val ys := by omega
  unfold Jh Rl Rm
  rw [if_neg h0, if_neg h0, decide_eq_true hp]
  have wX := Dig.wf_wd _ hvx
  have vX := Dig.val_wd _ hvx
  generalize hXe : Dig.wd (val xs) = X at *
  generalize val xs = x at *
  clear hXe
  subst vX
  generalize val ys = y at *
  have hYp : 0 < (Dig.wd y).length := List.length_pos_iff.2 (Dig.wd_ne_nil hp)
  have lYL : ∀ L : Int, 0 ≤ L → L < y → (Dig.wd L).length ≤ 40000000 := fun L a b => Ys a (Int.le_of_lt b) (by omega)
  have lM : ∀ M : Int, 0 ≤ M → M < 65536 * y → (Dig.wd M).length ≤ 40000001 := fun M a b => Dig.wd_length_le a (by
   have h1 := Dig.lt_pow_of_wd_length (n := y) (by omega) (k := 40000000) (by omega)
   rw [Int.pow_succ]
   generalize Dig.B ^ 40000000 = P at *
   show M < P * 65536
   omega)
  have HLY := Be lYL
  have HLM := Be lM
  clear lYL lM h h' h0
  go_enter Tryz.func104, Tryz.ntmps104
  go_wp2_with fail
  refine DX.out.mono ?_; rintro r w1 ⟨A1, n1, c1, rfl, hO1, hb1⟩
  have en1 := hO1.len
  go_wp2_with fail
  refine (DY.out _ hb1).mono ?_; rintro r w2 ⟨A2, n2, c2, rfl, hO2, hb2⟩
  have en2 := hO2.len
  have hw2 := Bc hb1 hb2
  have a1 := hO1.arr.below hb2
  have a2 := hO2.arr
  have z2 : ((n2 : Int) == 0) = false := beq_eq_false_iff_ne.2 (by omega)
  subst en1
  clear hO1 hO2 DX DY hb1 hb2
  go_wp2_with (at_make; refine Jc rfl _ _ rfl _ _ X.length rfl rfl ?m1 ?m2 ?m3 ?_)
  case m1 => omega
  case m2 => omega
  case m3 => omega
  intro g w3 hg hrow hb3
  have ap1 := a1.apart (Nat.le_of_eq hg.symm)
  have ap2 := a2.apart (Nat.le_of_eq hg.symm)
  have hb3' : Below w2.heap.size w2 w3 := hb3.mono (Nat.le_of_eq hg.symm)
  have hw3 := Bc hw2 hb3'
  have hgw : w.heap.size ≤ g := by have := hw2.size; omega
  have a1 := a1.below hb3'
  have a2 := a2.below hb3'
  clear hg hb3 hb3' hw2
  go_wp2_with fail
  go_loopw [9, 11] (fun vl vi wr => ∃ (r : Nat) (A3 : Option Addr) (n3 c3 : Nat) (L : Int) (Q : List Int), r ≤ X.length ∧ vi = .int .i64 ((r : Int) - 1) ∧ vl = .slice A3 n3 c3 ∧ Arr wr A3 n3 c3 (Dig.wd L) ∧ Row wr g Q ∧ Q.length = X.length ∧ Dig.Wf Q ∧ 0 ≤ L ∧ L < y ∧ Arr wr A1 X.length c1 X ∧ Arr wr A2 n2 c2 (Dig.wd y) ∧ Below w.heap.size w wr ∧ Hid (Dig.val (Q.drop r) = Dig.val (X.drop r) / y) ∧ Hid (L = Dig.val (X.drop r) % y)) (fun _ vi _ => (intOf vi + 1).toNat)
  case atStart => exact ⟨X.length, none, 0, 0, 0, _, Nat.le_refl _, by go_num, rfl, by rw [Dig.wd_zero (Int.le_refl _)]; exact Arr.nothing _, hrow, by simp, Dig.wf_replicate _, by omega, hp, a1, a2, hw3, by show _ = _; rw [List.drop_eq_nil_of_le (by simp), List.drop_eq_nil_of_le (by simp)]; simp [Dig.val], by show _ = _; rw [List.drop_eq_nil_of_le (by simp)]; simp [Dig.val]⟩
  case round =>
   clear a1 a2 hw3 hrow
   obtain ⟨r, A3, n3, c3, L, Q, hr, rfl, rfl, a3, hR, hQl, hQw, hL0, hL1, a1, a2, hW, hv, hm⟩ := hrel
   have ln3 := HLY.out L hL0 hL1
   rw [a3.len] at ln3
   by_cases hr0 : 0 < r
   ·obtain ⟨i, rfl⟩ : ∃ i, r = i + 1 := ⟨r - 1, by omega⟩
    have ei : (((i + 1 : Nat) : Int) - 1) = (i : Int) := by omega
    rw [ei]
    obtain ⟨b, o, rfl, hlt, hc⟩ := a1.mem (by omega)
    have k1 := hc i (by omega)
    have xg := wX.getD i
    have hrd := Zl (X := X) (i := i) (y := y) (by omega) hp
    rw [← hm.out] at hrd
    have hdg := Zj xg.1 xg.2 hL0 hL1
    clear hc
    generalize X.getD i 0 = x at *
    have hM0 : 0 ≤ x + 65536 * L := by omega
    have lM := HLM.out (x + 65536 * L) hM0 (by omega)
    have hMy : x + 65536 * L < 65536 * y := by omega
    have hvl : Dig.val (x :: Dig.wd L) = x + 65536 * L := by
     show x + Dig.B * Dig.val (Dig.wd L) = _
     rw [Dig.val_wd _ hL0]; rfl
    have hwl : Dig.Wf (x :: Dig.wd L) := Dig.wf_cons.2 ⟨xg, Dig.wf_wd _ hL0⟩
    have HRD := Be hrd
    have HVL := Be hvl
    have HVQ := hv
    clear hrd hvl hv hm
    go_wp2_with (at_builtin; refine De rfl _ _ rfl wr.heap.size _ 1 [x] rfl (Bdo ?o1 (Nat.le_refl _) x) A3 n3 c3 (Dig.wd L) rfl (a3.below (Ba (Bb _) _)) (1 + n3) rfl ?o2 ?o3 ?_)
    case o1 => first | rfl | simp
    case o2 => omega
    case o3 => simp
    intro v4 w4 ho4 hg4
    have hb4 : Below wr.heap.size wr w4 := (Ba (Bb wr) _).trans (Cf hg4 (by simp) (by
     intro k hk
     simp [Value.ownBlock] at hk
     omega))
    obtain ⟨A5, c5, rfl, hO5⟩ := Dg ho4 (Sp hwl)
    have C := Be (cut A5 _ c5 _ w4 hO5.arr hwl)
    have hT := hO5.take (Dig.wd (Dig.val (x :: Dig.wd L))).length (by have := Dig.wd_len hwl; rw [hO5.len] at this; exact this)
    rw [Dig.wd_take hwl, HVL.out] at hT
    rw [HVL.out] at C
    have hR4 := hR.below hb4 hR.lt
    have a1 := a1.below hb4
    have a2 := a2.below hb4
    have hw4 := Bc hW hb4
    have hgl := hR.lt
    have ap5 : blk A5 (Dig.wd (x + 65536 * L)).length = none ∨ blk A5 (Dig.wd (x + 65536 * L)).length ≠ some g := by
     by_cases hz : 0 < (Dig.wd (x + 65536 * L)).length
     ·obtain ⟨g5, S5, rfl, hB5, _⟩ := hT.row hz
      rw [Gi hz]
      exact .inr (by simp; omega)
     ·rw [show (Dig.wd (x + 65536 * L)).length = 0 by omega]; exact .inl rfl
    have a5 := hT.arr
    clear ho4 hg4 hO5 hT hb4 a3 hR hwl
    generalize x + 65536 * L = M at *
    go_wp2_with fail
    refine C.out.mono ?_; rintro r w' ⟨rfl, rfl⟩
    go_wp2_with fail
    refine (guess A5 A2 _ c5 n2 c2 M y w4 hM0 hp a5 a2 (by omega) (by omega)).mono ?_
    rintro r w' ⟨g0, rfl, hg0, hg1, hgm, rfl⟩
    have HG0 := Be hgm
    clear hgm C
    go_wp2_with fail
    go_loopw [12] (fun vl wr => ∃ l : Int, vl = .int .u64 l ∧ 0 ≤ l ∧ l ≤ 65535 ∧ Hid (l * y ≤ M) ∧ Below w4.heap.size w4 wr) (fun vl _ => (65536 - intOf vl).toNat)
    case atStart => exact ⟨g0, rfl, hg0, hg1, HG0.out, Bb _⟩
    case round =>
     obtain ⟨l, rfl, hl0, hl1, hlm, hb5⟩ := hrel
     have TM := Be (Bgi A2 n2 c2 y (l + 1) wr (by omega) (by omega) (by omega) (a2.below hb5) (by omega))
     have hyl0 : 0 ≤ y * (l + 1) := Int.mul_nonneg (by omega) (by omega)
     go_wp2_with fail
     refine TM.out.mono ?_; rintro r w6 ⟨A6, n6, c6, rfl, hO6, hb6⟩
     have hb56 := Bc hb5 hb6
     have C := Be (Rr A6 A5 n6 c6 _ c5 (y * (l + 1)) M w6 hyl0 hM0 hO6.arr (a5.below hb56))
     by_cases hle : y * (l + 1) ≤ M
     ·have hcc : Cs (y * (l + 1)) M = -1 ∨ Cs (y * (l + 1)) M = 0 := by
       by_cases hlt : y * (l + 1) < M
       ·exact .inl (Gk hlt)
       ·exact .inr (Lh (by omega))
      have hl2 : l + 1 ≤ 65535 := by
       by_cases hh : l + 1 ≤ 65535
       ·exact hh
       ·obtain rfl : l = 65535 := by omega
        exfalso; omega
      have HL : Hid ((l + 1) * y ≤ M) := by show _ ≤ _; rw [Int.mul_comm]; exact hle
      generalize Cs (y * (l + 1)) M = cq at *
      have dq : decide (cq ≤ 0) = true := by simp; omega
      clear hle TM
      go_wp2_with fail
      refine C.out.mono ?_; rintro r w7 ⟨rfl, s7⟩
      go_wp2_with fail
      exact ⟨⟨l + 1, by go_num, by omega, hl2, HL.out, hb56.trans (s7.below _)⟩, by simp only [intOf]; omega⟩
     ·have hcc : Cs (y * (l + 1)) M = 1 := Jy (by omega)
      have hf := Zk hp hlm.out (by omega : M < y * (l + 1))
      rw [hcc] at C
      have HF := Be hf
      have hyl : 0 ≤ y * l := Int.mul_nonneg (by omega) hl0
      have hyM : y * l ≤ M := by rw [Int.mul_comm]; exact hlm.out
      clear hcc hle TM hf hlm
      go_wp2_with fail
      refine C.out.mono ?_; rintro r w7 ⟨rfl, s7⟩
      have hb57 := hb56.trans (s7.below _)
      have hR7 := hR4.below hb57 hR4.lt
      have a17 := a1.below hb57
      have a27 := a2.below hb57
      have a57 := a5.below hb57
      have hw7 := Bc hw4 hb57
      have r1 := hR7.cell i (by omega)
      have r2 := hR7.free i
      have hset := hR7.set i (by omega) l hl0 (by omega)
      have a18 := a17.other (Br w7 g i (.int .u64 l)) ap1
      have a28 := a27.other (Br w7 g i (.int .u64 l)) ap2
      have a58 := a57.other (Br w7 g i (.int .u64 l)) ap5
      have hw8 := Bo hw7 g i hgw (.int .u64 l)
      have hQw' := hQw.set i (x := l) hl0 (by omega)
      have hdr := Ux (Q := Q) (i := i) (by omega) l
      have TM := Be (Bgi A2 n2 c2 y l _ (by omega) hl0 (by omega) a28 (by omega))
      clear hb5 hb6 hb56 hb57 hO6 C s7 hR7 a17 a27 a57 hw7
      go_wp2_with fail
      refine TM.out.mono ?_; rintro r w9 ⟨A9, n9, c9, rfl, hO9, hb9⟩
      have MN := Be (Bg2 A5 A9 _ c5 n9 c9 M (y * l) w9 hM0 hyl hyM (a58.below hb9) hO9.arr (by omega))
      have hw9 := Bc hw8 hb9
      have hR9 := hset.below hb9 hset.lt
      have a19 := a18.below hb9
      have a29 := a28.below hb9
      clear TM hO9 hb9 hset a18 a28 a58 hw8
      go_wp2_with fail
      refine MN.out.mono ?_; rintro r w10 ⟨A10, n10, c10, rfl, hO10, hb10⟩
      have hml : 0 ≤ M - y * l ∧ M - y * l < y := by
       rw [← HF.out.2]; exact ⟨Int.emod_nonneg _ (by omega), Int.emod_lt_of_pos _ hp⟩
      have HV : Hid (Dig.val ((Q.set i l).drop i) = Dig.val (X.drop i) / y) := by
       show _ = _; rw [hdr, HVQ.out, HRD.out.1, HF.out.1]
      have HM : Hid (M - y * l = Dig.val (X.drop i) % y) := by
       show _ = _; rw [HRD.out.2, HF.out.2]
      clear hdr
      go_wp2_with fail
      exact ⟨⟨i, A10, n10, c10, M - y * l, _, by omega, by go_num, rfl, hO10.arr, hR9.below hb10 hR9.lt, by rw [List.length_set]; exact hQl, hQw', hml.1, hml.2, a19.below hb10, a29.below hb10, Bc hw9 hb10, HV.out, HM.out⟩, by simp only [intOf]; omega⟩
   ·obtain rfl : r = 0 := by omega
    have hv := hv.out
    have hm := hm.out
    rw [List.drop_zero, List.drop_zero] at hv
    rw [List.drop_zero] at hm
    have hA := hR.arr' (n := X.length) (c := X.length) hQl (by omega) (by omega)
    have W1 := words _ _ _ Q wr hA hQw (by omega)
    rw [hv] at W1
    have W1 := Be W1
    have W2 := Be (fun w' (hb : Below wr.heap.size wr w') => words A3 n3 c3 (Dig.wd L) w' (a3.below hb) (Dig.wf_wd _ hL0) (by omega))
    rw [Dig.val_wd _ hL0] at W2
    have HM := Be hm
    clear hv hm
    go_wp2_with fail
    refine W1.out.mono ?_; rintro r w5 ⟨A5, n5, c5, rfl, hO5, hb5⟩
    go_wp2_with fail
    refine (W2.out _ hb5).mono ?_; rintro r w6 ⟨A6, n6, c6, rfl, hO6, hb6⟩
    go_wp2_with fail
    refine bodyPost_ret (v := .tuple #[.slice A5 n5 c5, .slice A6 n6 c6, .bool true]) (by simp [results, Tryz.results104, go_sem]) rfl ?_
    exact ⟨_, _, _, _, _, _, rfl, hO5.arr.below hb6, by rw [← HM.out]; exact hO6.arr, Bc (Bc hW hb5) hb6⟩
def loF (a : Int) (d : DV) : Int := if d.n = 0 then a else min a d.e
def hiF (a : Int) (d : DV) : Int := if d.n = 0 then a else max a d.e
def smF (neg : Bool) (L : Int) (a : Int) (d : DV) : Int := if d.n = 0 then a else if d.neg = neg then a + val d.xs * 2 ^ (d.e - L).toNat else a
def lo (l : List DV) : Int := l.foldl loF 262144
def hi (l : List DV) : Int := l.foldl hiF (-262144)
def sm (neg : Bool) (L : Int) (l : List DV) : Int := l.foldl (smF neg L) 0
def To (l : List DV) : Option Dy :=
 if l.all DV.plain then
  if hi l - lo l > 262144 then none
  else if sm true (lo l) l ≤ sm false (lo l) l then mkD false (sm false (lo l) l - sm true (lo l) l) (lo l)
  else mkD true (sm true (lo l) l - sm false (lo l) l) (lo l)
 else none
theorem no2 {A0 A1 : Option Addr} {n0 c0 n1 c1 : Nat} : ∀ (i : Nat) (x : Int), (#[Value.slice A0 n0 c0, .slice A1 n1 c1] : Array Value)[i]? ≠ some (Value.int .u64 x)
 | 0, _ => by simp
 | 1, _ => by simp
 | i + 2, _ => by simp
theorem Qo {α : Type} (f : α → DV → α) (a : α) (l : List DV) (i : Nat) (h : i < l.length) : (l.take (i + 1)).foldl f a = f ((l.take i).foldl f a) l[i] := by
 rw [List.take_add_one, List.getElem?_eq_getElem h]
 simp only [Option.toList_some, List.foldl_append, List.foldl_cons, List.foldl_nil]
theorem Bg1 (l : List DV) : ∀ a, l.foldl loF a ≤ a := by
 induction l with
 | nil => intro a; exact Int.le_refl _
 | cons d l ih =>
  intro a
  have := ih (loF a d)
  have h2 : loF a d ≤ a := by unfold loF; split <;> omega
  simp only [List.foldl_cons]
  omega
theorem Bhx (l : List DV) : ∀ a, ∀ d ∈ l, d.n ≠ 0 → l.foldl loF a ≤ d.e := by
 induction l with
 | nil => intro a d hd; cases hd
 | cons x l ih =>
  intro a d hd hn
  simp only [List.foldl_cons]
  rcases List.mem_cons.1 hd with rfl | hd
  ·have := Bg1 l (loF a d)
   have h2 : loF a d ≤ d.e := by unfold loF; rw [if_neg hn]; omega
   omega
  ·exact ih _ d hd hn
theorem lo_ge (l : List DV) (h : ∀ d ∈ l, -262144 ≤ d.e) : ∀ a, -262144 ≤ a → -262144 ≤ l.foldl loF a := by
 induction l with
 | nil => intro a ha; exact ha
 | cons x l ih =>
  intro a ha
  simp only [List.foldl_cons]
  have hx := h x (List.mem_cons_self)
  exact ih (fun d hd => h d (List.mem_cons_of_mem _ hd)) _ (by unfold loF; split <;> omega)
theorem Bg0 (l : List DV) : ∀ a, a ≤ l.foldl hiF a := by
 induction l with
 | nil => intro a; exact Int.le_refl _
 | cons d l ih =>
  intro a
  have := ih (hiF a d)
  have h2 : a ≤ hiF a d := by unfold hiF; split <;> omega
  simp only [List.foldl_cons]
  omega
theorem Bgs (l : List DV) : ∀ a, ∀ d ∈ l, d.n ≠ 0 → d.e ≤ l.foldl hiF a := by
 induction l with
 | nil => intro a d hd; cases hd
 | cons x l ih =>
  intro a d hd hn
  simp only [List.foldl_cons]
  rcases List.mem_cons.1 hd with rfl | hd
  ·have := Bg0 l (hiF a d)
   have h2 : d.e ≤ hiF a d := by unfold hiF; rw [if_neg hn]; omega
   omega
  ·exact ih _ d hd hn
theorem hi_le (l : List DV) (h : ∀ d ∈ l, d.e ≤ 262144) : ∀ a, a ≤ 262144 → l.foldl hiF a ≤ 262144 := by
 induction l with
 | nil => intro a ha; exact ha
 | cons x l ih =>
  intro a ha
  simp only [List.foldl_cons]
  have hx := h x (List.mem_cons_self)
  exact ih (fun d hd => h d (List.mem_cons_of_mem _ hd)) _ (by unfold hiF; split <;> omega)
theorem Bc8 (neg : Bool) (L : Int) (l : List DV) (h : ∀ d ∈ l, 0 ≤ val d.xs) : ∀ a, 0 ≤ a → 0 ≤ l.foldl (smF neg L) a := by
 induction l with
 | nil => intro a ha; exact ha
 | cons x l ih =>
  intro a ha
  simp only [List.foldl_cons]
  have hx := h x (List.mem_cons_self)
  have := Int.mul_nonneg hx (Int.le_of_lt (pw_pos (x.e - L).toNat))
  refine ih (fun d hd => h d (List.mem_cons_of_mem _ hd)) _ ?_
  unfold smF
  split
  ·exact ha
  ·split
   ·show 0 ≤ a + val x.xs * pw (x.e - L).toNat
    omega
   ·exact ha
theorem dsumA (SA : Option Addr) (m cap : Nat) (l : List DV) (hm : l.length = m) (w : World) (h : DVA w SA l) (hl : m ≤ 100000) (hT : Tz w) :
  Calls Tryz.prog 75 #[.slice SA m cap] w (He (To l) w) := by
 subst hm
 have b1 := Ba (Bb w) (.cells #[.bool false, .slice none 0 0, .int .i64 0] 26)
 have br := Bg w #[.bool false, .slice none 0 0, .int .i64 0] 26
 have D1 := h.later b1
 have PL := Be (Ba1 SA l.length cap l rfl _ D1 (by omega))
 cases hpl : l.all DV.plain
 ·rw [hpl] at PL
  have er : To l = none := by unfold To; rw [hpl]; rfl
  rw [er]
  clear er
  go_enter Tryz.func75, Tryz.ntmps75
  go_wp2_with fail
  refine PL.out.mono ?_; rintro r w3 ⟨rfl, hb3⟩
  have br3 := br.later hb3
  have hw3 := Bc b1 hb3
  obtain ⟨z0, z1, z2, y0, y1, y2⟩ := br3.cell3
  go_wp2_with fail
  refine bodyPost_ret (v := .tuple #[.agg #[.bool false, .slice none 0 0, .int .i64 0], .bool false]) (by simp [results, Tryz.results75, go_sem, z0, z1, z2]) rfl ?_
  exact Bu (o := none) (Dj _) br3 hw3 (by omega)
 ·rw [hpl] at PL
  have hall : ∀ d ∈ l, d.plain = true := fun d hd => List.all_eq_true.1 hpl d hd
  have hD : ∀ j (hj : j < l.length), PD ⟨(l[j]).neg, val (l[j]).xs, (l[j]).e⟩ ∧ (l[j]).xs.length ≤ 256 := fun j hj => by
   have hp := Bm (h.ok j hj).wf (hall _ (List.getElem_mem hj))
   exact ⟨hp.1, hp.2.1⟩
  have hDm : ∀ d ∈ l, PD ⟨d.neg, val d.xs, d.e⟩ ∧ d.xs.length ≤ 256 := fun d hd => by
   obtain ⟨j, hj, rfl⟩ := List.mem_iff_getElem.1 hd
   exact hD j hj
  have L0 := Bg1 l 262144
  have L1 := lo_ge l (fun d hd => (hDm d hd).1.lo) 262144 (by omega)
  have M0 := Bg0 l (-262144)
  have M1 := hi_le l (fun d hd => (hDm d hd).1.hi) (-262144) (by omega)
  have LM := Bhx l 262144
  have MM := Bgs l (-262144)
  have er : To l = if hi l - lo l > 262144 then none
    else if sm true (lo l) l ≤ sm false (lo l) l then mkD false (sm false (lo l) l - sm true (lo l) l) (lo l)
    else mkD true (sm true (lo l) l - sm false (lo l) l) (lo l) := by unfold To; rw [hpl]; rfl
  generalize hso : To l = so at *
  have ER := Be er
  clear hso hall hDm er
  have FL := Be (fun i hi' => Qo loF 262144 l i hi')
  have FH := Be (fun i hi' => Qo hiF (-262144) l i hi')
  have HD := Be hD
  have HLM := Be LM
  have HMM := Be MM
  clear hD hpl LM MM
  go_enter Tryz.func75, Tryz.ntmps75
  go_wp2_with fail
  refine PL.out.mono ?_; rintro r w3 ⟨rfl, hb3⟩
  clear PL
  go_wp2_with fail
  go_loopw [4, 5, 22] (fun vl vm vi wr => ∃ i : Nat, i ≤ l.length ∧ vi = .int .i64 i ∧ vl = .int .i64 ((l.take i).foldl loF 262144) ∧ vm = .int .i64 ((l.take i).foldl hiF (-262144)) ∧ Below (w.alloc (.cells #[.bool false, .slice none 0 0, .int .i64 0] 26)).heap.size (w.alloc (.cells #[.bool false, .slice none 0 0, .int .i64 0] 26)) wr) (fun _ _ vi _ => l.length - (intOf vi).toNat)
  case atStart => exact ⟨0, Nat.zero_le _, rfl, rfl, rfl, hb3⟩
  case round =>
   clear hb3
   obtain ⟨i, hi', rfl, rfl, rfl, hW⟩ := hrel
   by_cases h0 : i < l.length
   ·have hD3 := D1.later hW
    obtain ⟨g, o, rfl, -, hd0, hd1, hd2⟩ := hD3.mem (by omega)
    have k0 := hd0 i h0
    have k1 := hd1 i h0
    have k2 := hd2 i h0
    clear hd0 hd1 hd2
    have ho := hD3.ok i h0
    have fl := FL.out i h0
    have fh := FH.out i h0
    have hd := HD.out i h0
    have he0 := hd.1.lo
    have he1 := hd.1.hi
    simp only at he0 he1
    generalize l[i] = x at *
    obtain ⟨neg, A, n, c, xs, e⟩ := x
    have bx := Bg wr #[.bool neg, .slice A n c, .int .i64 e] 26
    have bW := Ba hW (.cells #[.bool neg, .slice A n c, .int .i64 e] 26)
    have FLi := Be fl
    have FHi := Be fh
    simp only at k0 k1 k2 he0 he1
    obtain ⟨z0, z1, z2, y0, y1, y2⟩ := bx.cell3
    clear fl fh ho hd
    generalize (l.take i).foldl loF 262144 = a at *
    generalize (l.take i).foldl hiF (-262144) = b at *
    by_cases hn : n = 0
    ·subst hn
     go_wp2_with fail
     exact ⟨⟨i + 1, by omega, by go_num, by rw [FLi.out]; rfl, by rw [FHi.out]; rfl, bW⟩, by simp only [intOf]; omega⟩
    ·have dn : decide ((n : Int) > 0) = true := by simp; omega
     go_wp2_with fail
     go_region_held3 (fun w' => w'.cell? ⟨wr.heap.size, 2, none⟩ = some (.int .i64 e)) (go_keep) (first | fail)
     all_goals
      go_wp2_with fail
      exact ⟨⟨i + 1, by omega, by go_num, by rw [FLi.out]; unfold loF; simp only; rw [if_neg hn], by rw [FHi.out]; unfold hiF; simp only; rw [if_neg hn], (by repeat with_reducible (first | assumption | exact Bb _ | refine Bd ?_ _ | apply Below.drew | refine Ba ?_ _))⟩, by simp only [intOf]; omega⟩
   ·obtain rfl : i = l.length := by omega
    have el : (l.take l.length).foldl loF 262144 = lo l := by rw [List.take_length]; rfl
    have eh : (l.take l.length).foldl hiF (-262144) = hi l := by rw [List.take_length]; rfl
    rw [el, eh]
    have L0' : lo l ≤ 262144 := L0
    have L1' : -262144 ≤ lo l := L1
    have M0' : -262144 ≤ hi l := M0
    have M1' : hi l ≤ 262144 := M1
    have hLM : ∀ d ∈ l, d.n ≠ 0 → lo l ≤ d.e := HLM.out
    have hMM : ∀ d ∈ l, d.n ≠ 0 → d.e ≤ hi l := HMM.out
    have HLM := Be hLM
    have HMM := Be hMM
    clear el eh L0 L1 M0 M1 hLM hMM FL FH
    have hw3 := Bc b1 hW
    have br3 := br.later hW
    obtain ⟨z0, z1, z2, y0, y1, y2⟩ := br3.cell3
    by_cases hwide : hi l - lo l > 262144
    ·have eo := ER.out
     rw [if_pos hwide] at eo
     subst eo
     generalize lo l = L at *
     generalize hi l = M at *
     have dW : decide (M - L > 262144) = true := by simp; omega
     go_wp2_with fail
     refine bodyPost_ret (v := .tuple #[.agg #[.bool false, .slice none 0 0, .int .i64 0], .bool false]) (by simp [results, Tryz.results75, go_sem, z0, z1, z2]) rfl ?_
     exact Bu (o := none) (Dj _) br3 hw3 (by omega)
    ·have eo := ER.out
     rw [if_neg hwide] at eo
     have SM := Be (fun (ng : Bool) i hi' => Qo (smF ng (lo l)) 0 l i hi')
     have EO := Be eo
     clear eo ER z0 z1 z2 y0 y1 y2
     generalize hLe : lo l = L at *
     generalize hi l = M at *
     have dW : decide (M - L > 262144) = false := by simp; omega
     have hW0 := hW
     have gsl : wr.heap.size = wr.heap.size := rfl
     have bs := Bg wr #[.slice none 0 0, .slice none 0 0] 105
     have bW := Ba hW (.cells #[.slice none 0 0, .slice none 0 0] 105)
     have hgs : (w.alloc (.cells #[.bool false, .slice none 0 0, .int .i64 0] 26)).heap.size ≤ wr.heap.size := hW.size
     clear hW hW0 gsl hw3 br3
     have hsn : ∀ (ng : Bool) i, 0 ≤ (l.take i).foldl (smF ng L) 0 := fun ng i => Bc8 ng L (l.take i) (fun d hd => by
      obtain ⟨j, hj, rfl⟩ := List.mem_iff_getElem.1 (List.mem_of_mem_take hd)
      exact (HD.out j hj).1.nn) 0 (Int.le_refl _)
     have HSN := Be hsn
     clear hsn
     go_wp2_with fail
     generalize wr.heap.size = gs at *
     go_loopw [46] (fun vi w2 => ∃ (i : Nat) (A0 : Option Addr) (n0 c0 : Nat) (A1 : Option Addr) (n1 c1 : Nat), i ≤ l.length ∧ vi = .int .i64 i ∧ Box w2 gs #[.slice A0 n0 c0, .slice A1 n1 c1] 105 ∧ Arr w2 A0 n0 c0 (wd ((l.take i).foldl (smF false L) 0)) ∧ Arr w2 A1 n1 c1 (wd ((l.take i).foldl (smF true L) 0)) ∧ n0 ≤ 5000 + i ∧ n1 ≤ 5000 + i ∧ Below (w.alloc (.cells #[.bool false, .slice none 0 0, .int .i64 0] 26)).heap.size (w.alloc (.cells #[.bool false, .slice none 0 0, .int .i64 0] 26)) w2) (fun vi _ => l.length - (intOf vi).toNat)
     case atStart => exact ⟨0, none, 0, 0, none, 0, 0, Nat.zero_le _, rfl, bs, by rw [show (l.take 0).foldl (smF false L) 0 = 0 from rfl, wd_zero (Int.le_refl _)]; exact Arr.nothing _, by rw [show (l.take 0).foldl (smF true L) 0 = 0 from rfl, wd_zero (Int.le_refl _)]; exact Arr.nothing _, by omega, by omega, bW⟩
     case round =>
      clear bs bW
      obtain ⟨i, A0, n0, c0, A1, n1, c1, hi', rfl, bs, a0, a1, hn0, hn1, hW⟩ := hrel
      have s0 := HSN.out false i
      have s1 := HSN.out true i
      by_cases h0 : i < l.length
      ·have hD3 := D1.later hW
       obtain ⟨g, o, rfl, -, hd0, hd1, hd2⟩ := hD3.mem (by omega)
       have k0 := hd0 i h0
       have k1 := hd1 i h0
       have k2 := hd2 i h0
       clear hd0 hd1 hd2
       have ho := hD3.ok i h0
       have sm0 := SM.out false i h0
       have sm1 := SM.out true i h0
       have hd := HD.out i h0
       have hmem := List.getElem_mem h0
       have hlm := HLM.out _ hmem
       have hmm := HMM.out _ hmem
       generalize l[i] = x at *
       obtain ⟨neg, A, n, c, xs, e⟩ := x
       simp only at k0 k1 k2 hlm hmm hd
       obtain ⟨pd, hx256⟩ := hd
       have he0 := pd.lo
       have he1 := pd.hi
       have hv := pd.nn
       simp only at he0 he1 hv
       have hxl := ho.len
       simp only at hxl
       have HS0 := Be sm0
       have HS1 := Be sm1
       clear sm0 sm1 hmem pd HD
       generalize hf0 : (l.take i).foldl (smF false L) 0 = t0 at *
       generalize hf1 : (l.take i).foldl (smF true L) 0 = t1 at *
       clear hf0 hf1
       by_cases hn : n = 0
       ·subst hn
        cases neg
        all_goals
         go_wp2_with fail
         exact ⟨⟨i + 1, A0, n0, c0, A1, n1, c1, by omega, by go_num, bs.later (Ba (Bb _) _), by rw [HS0.out]; exact a0.below (Ba (Bb _) _), by rw [HS1.out]; exact a1.below (Ba (Bb _) _), by omega, by omega, (by repeat with_reducible (first | assumption | exact Bb _ | refine Bd ?_ _ | apply Below.drew | refine Ba ?_ _))⟩, by simp only [intOf]; omega⟩
       ·have dn : decide ((n : Int) > 0) = true := by simp; omega
        have hlo := hlm hn
        have hhi := hmm hn
        have bx := Bg wr #[.bool neg, .slice A n c, .int .i64 e] 26
        have bW2 := Ba (Bb wr) (.cells #[.bool neg, .slice A n c, .int .i64 e] 26)
        have bs2 := bs.later bW2
        have hW2 := hW.trans (bW2.mono hW.size)
        have KS : ∀ w', Below (wr.alloc (.cells #[.bool neg, .slice A n c, .int .i64 e] 26)).heap.size (wr.alloc (.cells #[.bool neg, .slice A n c, .int .i64 e] 26)) w' → Box w' gs #[.slice A0 n0 c0, .slice A1 n1 c1] 105 ∧ Box w' wr.heap.size #[.bool neg, .slice A n c, .int .i64 e] 26 ∧ Arr w' A0 n0 c0 (wd t0) ∧ Arr w' A1 n1 c1 (wd t1) := fun w' hb => ⟨bs2.later hb, bx.later hb, (a0.below bW2).below hb, (a1.below bW2).below hb⟩
        have KC : ∀ w', Below (wr.alloc (.cells #[.bool neg, .slice A n c, .int .i64 e] 26)).heap.size (wr.alloc (.cells #[.bool neg, .slice A n c, .int .i64 e] 26)) w' → (w'.cell? ⟨gs, 0, none⟩ = some (.slice A0 n0 c0) ∧ w'.cell? ⟨gs, 1, none⟩ = some (.slice A1 n1 c1) ∧ w'.cell? ⟨wr.heap.size, 1, none⟩ = some (.slice A n c) ∧ w'.cell? ⟨wr.heap.size, 2, none⟩ = some (.int .i64 e) ∧ w'.frozen? ⟨gs, 0, none⟩ = false ∧ w'.frozen? ⟨gs, 1, none⟩ = false) := fun w' hb => ⟨(bs2.later hb).cell 0, (bs2.later hb).cell 1, (bx.later hb).cell 1, (bx.later hb).cell 2, (bs2.later hb).free 0, (bs2.later hb).free 1⟩
        have hY0 : 0 ≤ val xs * 2 ^ (e - L).toNat := Int.mul_nonneg hv (Int.le_of_lt (pw_pos _))
        have hYl : (wd (val xs * 2 ^ (e - L).toNat)).length ≤ 5000 := by
         refine wd_length_le hY0 ?_
         have z1 : val xs < pw (64 * 256) := by
          rw [← B_pow_pw]
          exact Int.lt_of_lt_of_le (val_lt ho.wf) (B_pow_le hx256)
         have z2 : val xs * pw (e - L).toNat < pw (64 * 256) * pw (e - L).toNat := Int.mul_lt_mul_of_pos_right z1 (pw_pos _)
         rw [← pw_add] at z2
         rw [B_pow_pw]
         exact Int.lt_of_lt_of_le z2 (pw_le (by omega))
        have vY := val_wd _ hY0
        have SX : ∀ (w1 : World) (hb : Below (wr.alloc (.cells #[.bool neg, .slice A n c, .int .i64 e] 26)).heap.size (wr.alloc (.cells #[.bool neg, .slice A n c, .int .i64 e] 26)) w1), Calls Tryz.prog 100 #[.slice A n c, .int .i64 (e - L)] w1 fun r w5 => ∃ A5 n5 c5, r = .returned (.slice A5 n5 c5) ∧ Arr w5 A5 n5 c5 (wd (val xs * 2 ^ (e - L).toNat)) ∧ Below (wr.alloc (.cells #[.bool neg, .slice A n c, .int .i64 e] 26)).heap.size (wr.alloc (.cells #[.bool neg, .slice A n c, .int .i64 e] 26)) w5 := by
         intro w1 hb
         have S := shl A n c xs (e - L) w1 ((ho.below bW2).below hb) (by omega) (by omega) (by omega)
         rw [Dm (by omega) (by omega)] at S
         refine S.mono ?_
         rintro r w5 ⟨A5, n5, c5, rfl, ha, hb5⟩
         exact ⟨A5, n5, c5, rfl, ha, Bc hb hb5⟩
        have AD : ∀ (B0 : Option Addr) (m0 d0 : Nat) (tt : Int) (_ : 0 ≤ tt) (_ : m0 ≤ 5000 + i) (A5 : Option Addr) (n5 c5 : Nat) (w1 : World) (_ : Arr w1 A5 n5 c5 (wd (val xs * 2 ^ (e - L).toNat))) (hb : Below (wr.alloc (.cells #[.bool neg, .slice A n c, .int .i64 e] 26)).heap.size (wr.alloc (.cells #[.bool neg, .slice A n c, .int .i64 e] 26)) w1) (_ : Arr w1 B0 m0 d0 (wd tt)), Calls Tryz.prog 108 #[.slice B0 m0 d0, .slice A5 n5 c5] w1 fun r w6 => ∃ A6 n6 c6, r = .returned (.slice A6 n6 c6) ∧ Arr w6 A6 n6 c6 (wd (tt + val xs * 2 ^ (e - L).toNat)) ∧ n6 ≤ 5000 + (i + 1) ∧ Below (wr.alloc (.cells #[.bool neg, .slice A n c, .int .i64 e] 26)).heap.size (wr.alloc (.cells #[.bool neg, .slice A n c, .int .i64 e] 26)) w6 := by
         intro B0 m0 d0 tt ht0 hm0 A5 n5 c5 w1 ha hb hB
         have q1 := ha.len
         have q2 := hB.len
         have q3 := Tt hB.wf ha.wf (k := 5000 + i) (by omega) (by omega)
         have S := add B0 A5 m0 d0 n5 c5 _ _ w1 hB ha (by omega) (by omega)
         have vt := val_wd tt ht0
         rw [vt, vY] at S q3
         refine S.mono ?_
         rintro r w6 ⟨A6, n6, c6, rfl, h6, hb6⟩
         have q4 := h6.len
         exact ⟨A6, n6, c6, rfl, h6.arr, by omega, Bc hb hb6⟩
        have KS := Be KS
        have KC := Be KC
        have SX := Be SX
        have AD0 := Be (fun A5 n5 c5 w1 a b => AD A0 n0 c0 t0 s0 hn0 A5 n5 c5 w1 a b (KS.out w1 b).2.2.1)
        have AD1 := Be (fun A5 n5 c5 w1 a b => AD A1 n1 c1 t1 s1 hn1 A5 n5 c5 w1 a b (KS.out w1 b).2.2.2)
        have W1f : IntKind.i64.wrap (e - L) = e - L := by rw [IntKind.wrap_i64]; omega
        have e0 : smF false L t0 ⟨neg, A, n, c, xs, e⟩ = if neg = false then t0 + val xs * 2 ^ (e - L).toNat else t0 := by unfold smF; simp only; rw [if_neg hn]
        have e1 : smF true L t1 ⟨neg, A, n, c, xs, e⟩ = if neg = true then t1 + val xs * 2 ^ (e - L).toNat else t1 := by unfold smF; simp only; rw [if_neg hn]
        have E0 := Be e0
        have E1 := Be e1
        clear AD e0 e1 vY hY0 hYl ho hv bx bs2 bW2 a0 a1 bs hW hlm hmm
        generalize val xs * 2 ^ (e - L).toNat = Y at *
        cases neg
        ·go_wp2_with fail
         obtain ⟨y0, y1, y2, y3, y4, y5⟩ := KC.out _ (Bb _)
         generalize (wr.alloc (.cells #[.bool false, .slice A n c, .int .i64 e] 26)) = V at *
         generalize wr.heap.size = ds at *
         go_region_with (first | (go_at_call 100; refine (SX.out _ ?_).mono ?_; (repeat with_reducible (first | assumption | exact Bb _ | refine Bd ?_ _ | apply Below.drew | refine Ba ?_ _)); rintro r w5 ⟨A5, n5, c5, rfl, hA5, hb5⟩; obtain ⟨x0, x1, x2, x3, x4, x5⟩ := KC.out w5 hb5) | (go_at_call 108; refine (AD0.out _ _ _ _ hA5 ?_).mono ?_; (repeat with_reducible (first | assumption | exact Bb _ | refine Bd ?_ _ | apply Below.drew | refine Ba ?_ _)); rintro r w6 ⟨A6, n6, c6, rfl, h6, hn6, hb6⟩; obtain ⟨u0, u1, u2, u3, u4, u5⟩ := KC.out w6 hb6))
         all_goals
          obtain ⟨r1, r2, r3, r4⟩ := KS.out w6 hb6
          have hW6 := hW2.trans (hb6.mono hW2.size)
          clear u0 u1 u2 u3 u4 u5 x0 x1 x2 x3 x4 x5 y0 y1 y2 y3 y4 y5 SX AD0 AD1 KC KS
          go_wp2_with fail
          exact ⟨⟨i + 1, A6, n6, c6, A1, n1, c1, by omega, by go_num, r1.set 0 _, by (rw [HS0.out, E0.out]; first | rw [if_pos rfl] | rw [if_pos trivial]); exact h6.set_box r1 no2 0 _, by rw [HS1.out, E1.out, if_neg (by simp)]; exact r4.set_box r1 no2 0 _, hn6, by omega, hW6.setCell hgs _⟩, by simp only [intOf]; omega⟩
        ·go_wp2_with fail
         obtain ⟨y0, y1, y2, y3, y4, y5⟩ := KC.out _ (Bb _)
         generalize (wr.alloc (.cells #[.bool true, .slice A n c, .int .i64 e] 26)) = V at *
         generalize wr.heap.size = ds at *
         go_region_with (first | (go_at_call 100; refine (SX.out _ ?_).mono ?_; (repeat with_reducible (first | assumption | exact Bb _ | refine Bd ?_ _ | apply Below.drew | refine Ba ?_ _)); rintro r w5 ⟨A5, n5, c5, rfl, hA5, hb5⟩; obtain ⟨x0, x1, x2, x3, x4, x5⟩ := KC.out w5 hb5) | (go_at_call 108; refine (AD1.out _ _ _ _ hA5 ?_).mono ?_; (repeat with_reducible (first | assumption | exact Bb _ | refine Bd ?_ _ | apply Below.drew | refine Ba ?_ _)); rintro r w6 ⟨A6, n6, c6, rfl, h6, hn6, hb6⟩; obtain ⟨u0, u1, u2, u3, u4, u5⟩ := KC.out w6 hb6))
         all_goals
          obtain ⟨r1, r2, r3, r4⟩ := KS.out w6 hb6
          have hW6 := hW2.trans (hb6.mono hW2.size)
          clear u0 u1 u2 u3 u4 u5 x0 x1 x2 x3 x4 x5 y0 y1 y2 y3 y4 y5 SX AD0 AD1 KC KS
          go_wp2_with fail
          exact ⟨⟨i + 1, A0, n0, c0, A6, n6, c6, by omega, by go_num, r1.set 1 _, by rw [HS0.out, E0.out, if_neg (by simp)]; exact r3.set_box r1 no2 1 _, by (rw [HS1.out, E1.out]; first | rw [if_pos rfl] | rw [if_pos trivial]); exact h6.set_box r1 no2 1 _, by omega, hn6, hW6.setCell hgs _⟩, by simp only [intOf]; omega⟩
      ·obtain rfl : i = l.length := by omega
       have f0 : (l.take l.length).foldl (smF false L) 0 = sm false L l := by rw [List.take_length]; rfl
       have f1 : (l.take l.length).foldl (smF true L) 0 = sm true L l := by rw [List.take_length]; rfl
       rw [f0] at a0 s0
       rw [f1] at a1 s1
       clear f0 f1 SM HSN
       generalize sm false L l = t0 at *
       generalize sm true L l = t1 at *
       have br4 := br.later hW
       have hw4 := Bc b1 hW
       have q0 := bs.cell 0
       have q1 := bs.cell 1
       have v0 := val_wd t0 s0
       have v1 := val_wd t1 s1
       have eo := EO.out
       by_cases hle : t1 ≤ t0
       ·rw [if_pos hle] at eo
        have HO := Be eo
        have S := sub A0 A1 n0 c0 n1 c1 _ _ wr a0 a1 (by omega) (by omega)
        unfold Ut at S
        rw [v0, v1, if_pos hle, decide_eq_true hle] at S
        have S := Be S
        have vd := val_wd (t0 - t1) (by omega)
        have ld : (wd (t0 - t1)).length ≤ n0 := by
         rw [← a0.len]
         exact wd_length_le (by omega) (Int.lt_of_le_of_lt (by omega : t0 - t1 ≤ t0) (lt_pow_of_wd_length s0 (Nat.le_refl _)))
        clear eo EO hle
        go_wp2_with fail
        refine S.out.mono ?_; rintro r w5 ⟨A5, n5, c5, rfl, h5, hb5⟩
        have l5 := h5.len
        have hw5 := Bc hw4 hb5
        have br5 := br4.later hb5
        have MK := Hv false A5 n5 c5 _ L w5 h5.arr (by omega) (by omega) (by omega) (hT.below hw5)
        rw [vd, ← HO.out] at MK
        have MK := Be MK
        clear S q0 q1
        go_wp2_with fail
        refine MK.out.mono ?_; rintro r w6 ⟨A6, n6, c6, rfl, h6, hb6⟩
        have hw6 := Bc hw5 hb6
        have br6 := br5.later hb6
        obtain ⟨z0, z1, z2, y0, y1, y2⟩ := br6.cell3
        go_wp2_with fail
        refine bodyPost_ret (v := _) ?_ rfl (Bu h6 br6 hw6 (Nat.le_refl _))
        simp [results, Tryz.results75, go_sem, z0, z1, z2]
       ·rw [if_neg hle] at eo
        have HO := Be eo
        have S := sub A0 A1 n0 c0 n1 c1 _ _ wr a0 a1 (by omega) (by omega)
        unfold Ut at S
        rw [v0, v1, if_neg hle, decide_eq_false hle] at S
        have S := Be S
        have S2 := fun w' (hb : Below wr.heap.size wr w') => sub A1 A0 n1 c1 n0 c0 _ _ w' (a1.below hb) (a0.below hb) (by omega) (by omega)
        unfold Ut at S2
        rw [v0, v1, if_pos (by omega), decide_eq_true (by omega)] at S2
        have S2 := Be S2
        have vd := val_wd (t1 - t0) (by omega)
        have ld : (wd (t1 - t0)).length ≤ n1 := by
         rw [← a1.len]
         exact wd_length_le (by omega) (Int.lt_of_le_of_lt (by omega : t1 - t0 ≤ t1) (lt_pow_of_wd_length s1 (Nat.le_refl _)))
        clear eo EO hle
        go_wp2_with fail
        refine S.out.mono ?_; rintro r w5 ⟨A5, n5, c5, rfl, h5, hb5⟩
        have hw5 := Bc hw4 hb5
        have br5 := br4.later hb5
        have bs5 := bs.later hb5
        have q0' := bs5.cell 0
        have q1' := bs5.cell 1
        clear S q0 q1
        go_wp2_with fail
        refine (S2.out _ hb5).mono ?_; rintro r w7 ⟨A7, n7, c7, rfl, h7, hb7⟩
        have l7 := h7.len
        have hw7 := Bc hw5 hb7
        have br7 := br5.later hb7
        have MK := Hv true A7 n7 c7 _ L w7 h7.arr (by omega) (by omega) (by omega) (hT.below hw7)
        rw [vd, ← HO.out] at MK
        have MK := Be MK
        clear S2 q0' q1'
        go_wp2_with fail
        refine MK.out.mono ?_; rintro r w6 ⟨A6, n6, c6, rfl, h6, hb6⟩
        have hw6 := Bc hw7 hb6
        have br6 := br7.later hb6
        obtain ⟨z0, z1, z2, y0, y1, y2⟩ := br6.cell3
        go_wp2_with fail
        refine bodyPost_ret (v := _) ?_ rfl (Bu h6 br6 hw6 (Nat.le_refl _))
        simp [results, Tryz.results75, go_sem, z0, z1, z2]
theorem Bbi (g m : Nat) (l : List DV) (hm : l.length = m) (w : World) (h : DVs w g l) (hl : m ≤ 100000) (hT : Tz w) :
  Calls Tryz.prog 75 #[.slice (some ⟨g, 0, none⟩) m m] w (He (To l) w) := dsumA _ m m l hm w h.any hl hT
def sg (neg : Bool) : Int := if neg then 9223372036854775808 else 0
set_option maxRecDepth 100000
theorem Bbq (neg : Bool) {v e u : Int} {a : Nat} (h : v = pw a * u) (hu : u % 2 = 1) (h0 : 0 < u) (h1 : u < 18446744073709551616) (e0 : e ≤ 262144) (e1 : -262144 ≤ e + a) (e2 : e + a ≤ 262144) : mkD neg v e = some ⟨neg, u, e + a⟩ := by
 obtain ⟨t1, t2⟩ := odd_of_split h hu (by omega)
 have hp := pw_pos a
 have hv : v ≠ 0 := by
  have := Int.mul_pos hp h0
  omega
 unfold mkD
 rw [if_neg hv, t1, t2, if_neg (by omega), wd_small h0 h1, if_pos ⟨by simp, e2⟩]
set_option maxRecDepth 100000
end Go.Proofs.YteffemhapnbaeaaGreatDoor
