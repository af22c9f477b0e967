/- Walks and laws that the claim's row needs. No conditions. -/
import Derived.Test.YteffemhapnbaeaaGreatDoorQaf
import Derived.Test.YteffemhapnbaeaaGreatDoorQad
import Derived.BigQuiet
import Derived.Deep.RegionWith
set_option maxHeartbeats 16000000
set_option linter.unusedSimpArgs false
set_option linter.unusedVariables false
namespace Go.Proofs.YteffemhapnbaeaaGreatDoor
open Go.RowKit Num
set_option maxRecDepth 100000
theorem Bfz (P Z T : List Int) (j : Nat) (hj : j < Z.length) : (P ++ Z ++ T).getD (P.length + j) 0 = Z.getD j 0 := by
 rw [List.append_assoc, List.getD_eq_getElem?_getD, List.getElem?_append_right (by omega), Nat.add_sub_cancel_left, List.getElem?_append_left hj, List.getD_eq_getElem?_getD]
theorem Qk {w : World} {g : Nat} {P Z T : List Int} (h : Row w g (P ++ Z ++ T)) (j : Nat) (hj : j < Z.length) : w.cell? ⟨g, P.length + j, none⟩ = some (.int .u64 (Z.getD j 0)) := by
 rw [h.cell (P.length + j) (by simp; omega), Bfz P Z T j hj]
theorem Sg {w : World} {g : Nat} {P Z T : List Int} (h : Row w g (P ++ Z ++ T)) (j : Nat) (hj : j < Z.length) (v : Int) (h0 : 0 ≤ v) (h1 : v < 18446744073709551616) : Row (w.setCell ⟨g, P.length + j, none⟩ (.int .u64 v)) g (P ++ Z.set j v ++ T) := by
 have := h.set (P.length + j) (by simp; omega) v h0 h1
 rw [List.append_assoc, List.set_append_right _ _ (by omega), Nat.add_sub_cancel_left, List.set_append_left _ _ hj, ← List.append_assoc] at this
 exact this
theorem Mo {w : World} {g : Nat} {P Z T : List Int} (h : Row w g (P ++ Z ++ T)) : Wf Z := (wf_append.1 (wf_append.1 h.wf).1).2
theorem Ya (x y b : Int) (hx0 : 0 ≤ x) (hx : x < 18446744073709551616) (hy0 : 0 ≤ y) (hy : y < 18446744073709551616) (hb0 : 0 ≤ b) (hb : b ≤ 1) (w : World) : ∃ s k : Int,
  (callFunc 146 #[.int .u64 x, .int .u64 y, .int .u64 b]).run Tryz.prog w = .ok (.value (.tuple #[.int .u64 s, .int .u64 k])) w ∧ x - y - b = s - k * 18446744073709551616 ∧ 0 ≤ s ∧ s < 18446744073709551616 ∧ 0 ≤ k ∧ k ≤ 1 := by
 have h := Mf x y b hx0 hy0 hy hb0 hb w
 have e := Kk hx0 hx hy0 hy hb0 hb
 have r := Jw x y b
 exact ⟨_, _, h, by omega, by omega, by omega, r.1, r.2⟩
theorem Ud (x y c : Int) (hx0 : 0 ≤ x) (hx : x < 18446744073709551616) (hy0 : 0 ≤ y) (hy : y < 18446744073709551616) (hc0 : 0 ≤ c) (hc : c ≤ 1) (w : World) : ∃ s k : Int,
  (callFunc 133 #[.int .u64 x, .int .u64 y, .int .u64 c]).run Tryz.prog w = .ok (.value (.tuple #[.int .u64 s, .int .u64 k])) w ∧ x + y + c = s + k * 18446744073709551616 ∧ 0 ≤ s ∧ s < 18446744073709551616 ∧ 0 ≤ k ∧ k ≤ 1 := by
 have h := Jx x y c hx0 hy0 hc0 hc w
 exact ⟨_, _, h, by omega, by omega, by omega, by omega, by omega⟩
theorem less (g : Nat) (P Z T : List Int) (cu : Nat) (A : Option Addr) (k c : Nat) (ds : List Int) (G : Int) (w : World) (hr : Row w g (P ++ Z ++ T)) (hd : Arr w A k c ds) (hne : blk A k = none ∨ blk A k ≠ some g) (hZ : Z.length = k + 1)
  (hcu : k + 1 ≤ cu) (hcu' : cu ≤ 9223372036854775807) (hP : P.length ≤ 1000000000) (hk' : k ≤ 1000000000) (hG0 : 0 ≤ G) (hG : G < 18446744073709551616) (hD : 0 < val ds) (hq : val Z / val ds ≤ G) :
  Calls Tryz.prog 134 #[.slice (some ⟨g, P.length, none⟩) (k + 1) cu, .slice A k c, .int .u64 G] w fun e w' => e = .returned (.int .u64 (val Z / val ds)) ∧ (∃ Z', Z'.length = k + 1 ∧ val Z' = val Z - val Z / val ds * val ds ∧ Row w' g (P ++ Z' ++ T)) ∧ w.grownBy w' (some g) := by
 have cap1 := hd.cap
 have cap2 := hd.big
 have hl := hd.len
 subst hl
 have hZ0 := val_nonneg (Mo hr)
 have t0 : 0 ≤ val Z / val ds := Int.ediv_nonneg hZ0 (by omega)
 go_enter Tryz.func134, Tryz.ntmps134
 go_wp2_with fail
 go_loopw [7, 8, 19] (fun vcy vc vi wr => ∃ (i : Nat) (cy : Int) (Y : List Int), i ≤ ds.length ∧ vi = .int .i64 i ∧ vcy = .int .u64 cy ∧ vc = .int .u64 0 ∧ 0 ≤ cy ∧ cy < 18446744073709551616 ∧ Y.length = ds.length + 1 ∧ Row wr g (P ++ Y ++ T) ∧ Hid (val Y - cy * B ^ i = val Z - G * val (ds.take i)) ∧ w.grownBy wr (some g)) (fun _ _ vi _ => ds.length + 1 - (intOf vi).toNat)
 case atStart => exact ⟨0, 0, Z, Nat.zero_le _, rfl, rfl, rfl, by omega, by omega, hZ, hr, by show _ = _; simp [val], Do w _⟩
 case round =>
  obtain ⟨i, cy, Y, hi, rfl, rfl, rfl, hc0, hc1, hlY, hR, hv, hG1⟩ := hrel
  have hA := hd.other hG1 hne
  by_cases h0 : i < ds.length
  ·obtain ⟨b, o, rfl, hlt, hc⟩ := hA.mem (by omega)
   have k1 := hc i h0
   have y1 := hA.words i
   have r1 := Qk hR i (by omega)
   have r2 := hR.free (P.length + i)
   have s1 := (Mo hR).getD i
   have hst := fun s cy' e => Bbp (s := s) (cy' := cy') (by omega) h0 hv.out e
   have hset := fun v h0 h1 => Sg hR i (by omega) v h0 h1
   generalize ds.getD i 0 = y at *
   generalize Y.getD i 0 = s at *
   obtain ⟨hi', lo, e1, e2, e3, l0, l1, h2, h3⟩ := Bdg G y hG0 hG y1.1 y1.2
   have g1 : G * y ≤ 18446744073709551615 * 18446744073709551615 := by
    have a1 : G * y ≤ 18446744073709551615 * y := Int.mul_le_mul_of_nonneg_right (by omega) y1.1
    omega
   obtain ⟨l2, c2, ha1, e4, l3, l4, l5, l6⟩ := Sh lo cy l0 l1 hc0 hc1 wr
   obtain ⟨s', c3, ha2, e5, l7, l8, l9, l10⟩ := Ya s l2 0 s1.1 s1.2 l3 l4 (by omega) (by omega) wr
   have HM := Be (Bg3 G y wr hG0 hG y1.1 y1.2)
   rw [e1, e2] at HM
   have q1 : hi' + c2 < 18446744073709551616 := by omega
   have q2 : hi' + c2 + c3 < 18446744073709551616 := by omega
   have HS := Be (hst s' (hi' + c2 + c3) (by rw [B_eq]; omega))
   clear hc e1 e2 e3 h3 e4 e5 hst g1 hv
   go_wp2_with fail
   refine HM.out.mono ?_; rintro r w' ⟨rfl, rfl⟩
   go_wp2_with fail
   exact ⟨⟨i + 1, _, _, by omega, by go_num, rfl, rfl, by omega, q2, by rw [List.length_set]; exact hlY, hset s' l7 l8, HS.out, Bi hG1 (Br _ _ _ _)⟩, by simp only [intOf]; omega⟩
  ·obtain rfl : i = ds.length := by omega
   rw [List.take_length] at hv
   have r1 := Qk hR ds.length (by omega)
   have r2 := hR.free (P.length + ds.length)
   have s1 := (Mo hR).getD ds.length
   have hst := fun s cy' e => Bbn (s := s) (cy' := cy') (by omega) hv.out e
   have hset := fun v h0 h1 => Sg hR ds.length (by omega) v h0 h1
   generalize Y.getD ds.length 0 = s at *
   obtain ⟨s', c3, ha2, e5, l7, l8, l9, l10⟩ := Ya s cy 0 s1.1 s1.2 hc0 hc1 (by omega) (by omega) wr
   have HS := Be (hst s' c3 (by rw [B_eq]; omega))
   have hset := hset s' l7 l8
   have HT := Be hq
   clear e5 hst hv hq
   go_wp2_with fail
   go_loopw [2, 8] (fun vg vc wr => ∃ (g' c' : Int) (Y : List Int), vg = .int .u64 g' ∧ vc = .int .u64 c' ∧ 0 ≤ g' ∧ g' < 18446744073709551616 ∧ 0 ≤ c' ∧ c' ≤ 1 ∧ Y.length = ds.length + 1 ∧ Row wr g (P ++ Y ++ T) ∧ Hid (val Z / val ds ≤ g') ∧ Hid (val Y - c' * B ^ (ds.length + 1) = val Z - g' * val ds) ∧ w.grownBy wr (some g)) (fun vg _ _ => (intOf vg).toNat)
   case atStart => exact ⟨G, c3, _, rfl, rfl, hG0, hG, l9, l10, by rw [List.length_set]; exact hlY, hset, HT.out, HS.out, Bi hG1 (Br _ _ _ _)⟩
   case round =>
    obtain ⟨g', c', V, rfl, rfl, hg0, hg1, hc0', hc1', hlV, hRV, ht, hvv, hGV⟩ := hrel
    by_cases hc : c' = 0
    ·subst hc
     have hh := Bbm (Mo hRV) hD hvv.out ht.out
     have HH := Be hh
     clear hh
     go_wp2_with fail
     go_ret
     exact ⟨by rw [HH.out.1]; rfl, ⟨V, hlV, HH.out.2, hRV⟩, hGV⟩
    ·obtain rfl : c' = 1 := by omega
     have hm := Bbo (Mo hRV) hlV hD hvv.out
     have hg2 : 1 ≤ g' := by omega
     have HM := Be hm
     clear hm hc
     go_wp2_with fail
     go_loopw [14, 76] (fun vb vi wr => ∃ (i : Nat) (bk : Int) (Y : List Int), i ≤ ds.length ∧ vi = .int .i64 i ∧ vb = .int .u64 bk ∧ 0 ≤ bk ∧ bk ≤ 1 ∧ Y.length = ds.length + 1 ∧ Row wr g (P ++ Y ++ T) ∧ Hid (val Y + bk * B ^ i = val V + val (ds.take i)) ∧ w.grownBy wr (some g)) (fun _ vi _ => ds.length + 1 - (intOf vi).toNat)
     case atStart => exact ⟨0, 0, V, Nat.zero_le _, rfl, rfl, by omega, by omega, hlV, hRV, by show _ = _; simp [val], hGV⟩
     case round =>
      obtain ⟨i, bk, Y2, hi2, rfl, rfl, hb0, hb1, hlY2, hR2, hv2, hG2⟩ := hrel
      have hA := hd.other hG2 hne
      by_cases h0 : i < ds.length
      ·obtain ⟨b, o, rfl, hlt, hc⟩ := hA.mem (by omega)
       have k1 := hc i h0
       have y1 := hA.words i
       have r1 := Qk hR2 i (by omega)
       have r2 := hR2.free (P.length + i)
       have s1 := (Mo hR2).getD i
       have hst := fun s cy' e => Bb9 (s := s) (cy' := cy') (by omega) h0 hv2.out e
       have hset := fun v h0 h1 => Sg hR2 i (by omega) v h0 h1
       generalize ds.getD i 0 = y at *
       generalize Y2.getD i 0 = s at *
       obtain ⟨s', c3, ha2, e5, l7, l8, l9, l10⟩ := Ud s y bk s1.1 s1.2 y1.1 y1.2 hb0 hb1 wr
       have HS := Be (hst s' c3 (by rw [B_eq]; omega))
       clear hc e5 hst hv2
       go_wp2_with fail
       exact ⟨⟨i + 1, _, _, by omega, by go_num, rfl, l9, l10, by rw [List.length_set]; exact hlY2, hset s' l7 l8, HS.out, Bi hG2 (Br _ _ _ _)⟩, by simp only [intOf]; omega⟩
      ·obtain rfl : i = ds.length := by omega
       rw [List.take_length] at hv2
       have r1 := Qk hR2 ds.length (by omega)
       have r2 := hR2.free (P.length + ds.length)
       have s1 := (Mo hR2).getD ds.length
       have hst := fun s cy' e => Bb8 (s := s) (cy' := cy') (by omega) hv2.out e
       have hset := fun v h0 h1 => Sg hR2 ds.length (by omega) v h0 h1
       generalize Y2.getD ds.length 0 = s at *
       obtain ⟨s', c3, ha2, e5, l7, l8, l9, l10⟩ := Ud s 0 bk s1.1 s1.2 (by omega) (by omega) hb0 hb1 wr
       have hs1 := hst s' c3 (by rw [B_eq]; omega)
       have hs2 : val (Y2.set ds.length s') - (1 - c3) * B ^ (ds.length + 1) = val Z - (g' - 1) * val ds := by
        have e1 : (1 - c3) * B ^ (ds.length + 1) = 1 * B ^ (ds.length + 1) - c3 * B ^ (ds.length + 1) := by grind
        have e2 : (g' - 1) * val ds = g' * val ds - val ds := by grind
        have := hvv.out
        omega
       have HS := Be hs2
       have hset := hset s' l7 l8
       clear e5 hst hv2 hs1 hs2
       go_wp2_with fail
       exact ⟨⟨g' - 1, 1 - c3, _, by go_num, by go_num, by omega, by omega, by omega, by omega, by rw [List.length_set]; exact hlY2, hset, HM.out, HS.out, Bi hG2 (Br _ _ _ _)⟩, by simp only [intOf]; omega⟩
theorem Bd1 (hi lo y : Int) (w : World) (h0 : 0 ≤ hi) (hl0 : 0 ≤ lo) (hl : lo < 18446744073709551616) (hy : hi < y) (hy' : y < 18446744073709551616) :
  Calls Tryz.prog 130 #[.int .u64 hi, .int .u64 lo, .int .u64 y] w fun e w' => e = .returned (.tuple #[.int .u64 ((hi * 18446744073709551616 + lo) / y), .int .u64 ((hi * 18446744073709551616 + lo) % y)]) ∧ Still w w' := by
 by_cases h : hi = 0
 ·subst h
  have := Bbh lo y w hl0 hl hy hy'
  rw [Int.zero_mul, Int.zero_add]
  exact this
 ·exact div64 hi lo y w (by omega) hl0 hl hy hy'
theorem Lv {X : List Int} {i : Nat} (hi : i < X.length) : val (X.drop i) = X.getD i 0 + 18446744073709551616 * val (X.drop (i + 1)) := by
 rw [List.drop_eq_getElem_cons hi, val_cons, List.getD_eq_getElem?_getD, List.getElem?_eq_getElem hi]; rfl
theorem Ft {Q : List Int} {i : Nat} (hi : i < Q.length) (d : Int) : val ((Q.set i d).drop i) = d + 18446744073709551616 * val (Q.drop (i + 1)) := by
 rw [Lv (by rw [List.length_set]; exact hi), getD_set_same _ _ _ hi]
 congr 3
 rw [List.drop_set_of_lt (by omega)]
theorem Zt {X Q : List Int} {i : Nat} {y L : Int} (hi : i < X.length) (hq : i < Q.length) (hy : 0 < y) (hv : val (Q.drop (i + 1)) = val (X.drop (i + 1)) / y) (hL : L = val (X.drop (i + 1)) % y) :
  val ((Q.set i ((L * 18446744073709551616 + X.getD i 0) / y)).drop i) = val (X.drop i) / y ∧ (L * 18446744073709551616 + X.getD i 0) % y = val (X.drop i) % y := by
 rw [Ft hq, hv, Lv hi, hL]
 have h1 := Uz (val (X.drop (i + 1))) (X.getD i 0) 18446744073709551616 hy
 have h2 := Vf (val (X.drop (i + 1))) (X.getD i 0) 18446744073709551616 y
 generalize val (X.drop (i + 1)) = v at *
 generalize X.getD i 0 = x at *
 have e1 : v * 18446744073709551616 + x = x + 18446744073709551616 * v := by omega
 rw [e1] at h1 h2
 rw [h1, h2]
 exact ⟨by omega, rfl⟩
theorem Va (A A' : Option Addr) (n c n' c' : Nat) (xs ys : List Int) (w : World) (h : Arr w A n c xs) (h' : Arr w A' n' c' ys) (hn : n ≤ 100000000) (hxy : val ys = 0 ∨ val xs < val ys) :
  Calls Tryz.prog 99 #[.slice A n c, .slice A' n' c'] w (Jh (val xs) (val ys) w) := by
 have hx := h.trim
 have hy := h'.trim
 have vx := h.val_nonneg
 have vy := h'.val_nonneg
 have T := Be (trim A n c xs w h)
 have T' := Be (trim A' n' c' ys w h')
 have C := Be (Qp A A' _ c _ c' _ _ w hx hy)
 have nl : (wd (val xs)).length ≤ 100000000 := Nat.le_trans (wd_len h.wf) (by rw [h.len]; exact hn)
 have NT := Be (fun w' (hb : Below w.heap.size w w') => Bg5 A _ c _ w' (hx.below hb) (by omega))
 rw [val_wd _ vx] at NT
 rw [val_wd _ vx, val_wd _ vy] at C
 by_cases h0 : val ys = 0
 ·have l0 : (wd (val ys)).length = 0 := by rw [h0, wd_zero (Int.le_refl _)]; rfl
  rw [l0] at T'
  have e1 : wd (Rl (val xs) (val ys)) = [] := by unfold Rl; rw [if_pos h0]; exact wd_zero (Int.le_refl _)
  have e2 : wd (Rm (val xs) (val ys)) = [] := by unfold Rm; rw [if_pos h0]; exact wd_zero (Int.le_refl _)
  have e3 : decide (0 < val ys) = false := by simp; omega
  unfold Jh
  rw [e1, e2, e3]
  clear C e1 e2 e3 h0
  go_enter Tryz.func99, Tryz.ntmps99
  go_wp2_with fail
  refine T.out.mono ?_; rintro r w' ⟨rfl, rfl⟩
  go_wp2_with fail
  refine T'.out.mono ?_; rintro r w' ⟨rfl, rfl⟩
  go_wp2_with fail
  refine bodyPost_ret (v := .tuple #[.slice none 0 0, .slice none 0 0, .bool false]) (by simp [results, Tryz.results99, go_sem]) rfl ?_
  exact ⟨none, 0, 0, none, 0, 0, rfl, Arr.nothing _, Arr.nothing _, Bb w⟩
 ·have hlt : val xs < val ys := by omega
  have lp : 0 < (wd (val ys)).length := List.length_pos_iff.2 (wd_ne_nil (by omega))
  have l0 : (((wd (val ys)).length : Int) == 0) = false := beq_eq_false_iff_ne.2 (by omega)
  have e1 : wd (Rl (val xs) (val ys)) = [] := by unfold Rl; rw [if_neg h0, Int.ediv_eq_zero_of_lt vx hlt]; exact wd_zero (Int.le_refl _)
  have e2 : Rm (val xs) (val ys) = val xs := by unfold Rm; rw [if_neg h0, Int.emod_eq_of_lt vx hlt]
  have e3 : decide (0 < val ys) = true := by simp; omega
  unfold Jh
  rw [e1, e2, e3]
  rw [Gk hlt] at C
  generalize wd (val ys) = Y at *
  generalize hX : wd (val xs) = X at *
  clear e1 e2 e3 h0 hlt vx vy
  go_enter Tryz.func99, Tryz.ntmps99
  go_wp2_with fail
  refine T.out.mono ?_; rintro r w' ⟨rfl, rfl⟩
  go_wp2_with fail
  refine T'.out.mono ?_; rintro r w' ⟨rfl, rfl⟩
  go_wp2_with fail
  refine C.out.mono ?_; rintro r w0 ⟨rfl, hst⟩
  go_wp2_with fail
  refine (NT.out _ (hst.below _)).mono ?_; rintro r w5 ⟨A5, n5, c5, rfl, hO, hb⟩
  go_wp2_with fail
  refine bodyPost_ret (v := .tuple #[.slice none 0 0, .slice A5 n5 c5, .bool true]) (by simp [results, Tryz.results99, go_sem]) rfl ?_
  exact ⟨none, 0, 0, A5, n5, c5, rfl, Arr.nothing _, hO.arr, Bc (hst.below _) hb⟩
theorem Wo (A A' : Option Addr) (n c n' c' : Nat) (xs ys : List Int) (w : World) (h : Arr w A n c xs) (h' : Arr w A' n' c' ys) (hn : n ≤ 100000000) (h0 : 0 < val ys) (h1 : val ys ≤ val xs) (h2 : (wd (val ys)).length = 1) :
  Calls Tryz.prog 99 #[.slice A n c, .slice A' n' c'] w (Jh (val xs) (val ys) w) := by
 have hx := h.trim
 have hy := h'.trim
 have vx := h.val_nonneg
 have T := Be (trim A n c xs w h)
 have T' := Be (trim A' n' c' ys w h')
 have C := Be (Qp A A' _ c _ c' _ _ w hx hy)
 have nl : (wd (val xs)).length ≤ 100000000 := Nat.le_trans (wd_len h.wf) (by rw [h.len]; exact hn)
 rw [val_wd _ vx, val_wd _ (by omega)] at C
 have vX := val_wd (val xs) vx
 have vY := val_wd (val ys) (by omega)
 have wX := hx.wf
 unfold Jh Rl Rm
 rw [if_neg (by omega), if_neg (by omega), decide_eq_true h0]
 generalize wd (val xs) = X at *
 generalize wd (val ys) = Y at *
 generalize val xs = x at *
 generalize hye : val ys = y at *
 obtain ⟨z, rfl⟩ := List.length_eq_one_iff.1 h2
 rw [Ds] at vY
 subst vY
 have y1 := hy.words 0
 simp only [List.getD_cons_zero] at y1
 have hc : Cs x z = 0 ∨ Cs x z = 1 := by unfold Cs; rw [if_neg (by omega)]; split <;> simp
 generalize Cs x z = q at *
 have hq : decide (q < 0) = false := by simp; omega
 simp only [List.length_singleton] at T' hy
 have D := Be (fun hi lo w a b c d => Bd1 hi lo z w a b c d y1.2)
 clear h2 hye
 subst vX
 have HX0 := Be h1
 clear h1
 go_enter Tryz.func99, Tryz.ntmps99
 go_wp2_with fail
 refine T.out.mono ?_; rintro r w' ⟨rfl, rfl⟩
 go_wp2_with fail
 refine T'.out.mono ?_; rintro r w' ⟨rfl, rfl⟩
 go_wp2_with fail
 refine C.out.mono ?_; rintro r w0 ⟨rfl, hst⟩
 have hb0 := hst.below w.heap.size
 clear hst
 go_wp2_with (at_make; refine Jc rfl _ _ rfl _ _ X.length rfl rfl ?m1 ?m2 ?m3 ?_)
 case m1 => omega
 case m2 => omega
 case m3 => omega
 intro g w1 hg hrow hb
 have hb1 := Bc hb0 (hg ▸ hb)
 have hgw : w.heap.size ≤ g := by rw [hg]; exact hb0.size
 clear hg hb
 go_wp2_with fail
 go_loopw [8, 9] (fun vl vi wr => ∃ (r : Nat) (L : Int) (Q : List Int), r ≤ X.length ∧ vi = .int .i64 ((r : Int) - 1) ∧ vl = .int .u64 L ∧ 0 ≤ L ∧ L < z ∧ Q.length = X.length ∧ Row wr g Q ∧ Below w.heap.size w wr ∧ Hid (val (Q.drop r) = val (X.drop r) / z) ∧ Hid (L = val (X.drop r) % z)) (fun _ vi _ => (intOf vi + 1).toNat)
 case atStart => exact ⟨X.length, 0, _, Nat.le_refl _, by go_num, rfl, by omega, h0, by simp, hrow, hb1, by show _ = _; rw [List.drop_eq_nil_of_le (by simp), List.drop_eq_nil_of_le (by simp)]; simp [val], by show _ = _; rw [List.drop_eq_nil_of_le (by simp)]; simp [val]⟩
 case round =>
  obtain ⟨r, L, Q, hr, rfl, rfl, hL0, hL1, hlQ, hR, hW, hv, hm⟩ := hrel
  by_cases hr0 : 0 < r
  ·obtain ⟨i, rfl⟩ : ∃ i, r = i + 1 := ⟨r - 1, by omega⟩
   have ei : (((i + 1 : Nat) : Int) - 1) = (i : Int) := by omega
   rw [ei]
   obtain ⟨b, o, rfl, hlt, hc⟩ := (hx.below hW).mem (by omega)
   have k1 := hc i (by omega)
   obtain ⟨b', o', rfl, hlt', hc'⟩ := (hy.below hW).mem (by omega)
   have k2 := hc' 0 (by omega)
   simp only [List.getD_cons_zero, Nat.add_zero] at k2
   have r1 := hR.cell i (by omega)
   have r2 := hR.free i
   have x1 := wX.getD i
   have hwr := Zt (X := X) (Q := Q) (i := i) (y := z) (by omega) (by omega) h0 hv.out hm.out
   have hset := fun W (hr : Row W g Q) v h0 h1 => hr.set i (by omega) v h0 h1
   generalize X.getD i 0 = x at *
   have D' := Be (fun w => D.out L x w hL0 x1.1 x1.2 hL1)
   have q1 : 0 ≤ (L * 18446744073709551616 + x) / z := Int.ediv_nonneg (by omega) (by omega)
   have q2 : (L * 18446744073709551616 + x) / z < 18446744073709551616 := Int.ediv_lt_of_lt_mul h0 (by omega)
   have q3 : 0 ≤ (L * 18446744073709551616 + x) % z := Int.emod_nonneg _ (by omega)
   have q4 : (L * 18446744073709551616 + x) % z < z := Int.emod_lt_of_pos _ h0
   have HWR := Be hwr
   clear hwr hv hm hc hc' C T T'
   generalize (L * 18446744073709551616 + x) / z = dq at *
   generalize (L * 18446744073709551616 + x) % z = dr at *
   have HS := Be (fun W hr => hset W hr dq q1 q2)
   clear hset
   go_wp2_with fail
   go_region_with (go_at_call 130; refine (D'.out _).mono ?_; rintro r w' ⟨rfl, ⟨k, rfl⟩⟩)
   all_goals
    go_wp2_with fail
    exact ⟨⟨i, dr, _, by omega, by go_num, rfl, q3, q4, by rw [List.length_set]; exact hlQ, HS.out _ (by repeat (first | exact hR | apply Row.drewN | apply Row.drew)), (by repeat (first | with_reducible assumption | exact Bb _ | refine Bo ?_ _ _ (by first | exact Nat.le_refl _ | omega | (simp; done) | (simp; omega)) _ | refine Ba ?_ _ | apply Below.drew | apply Bd)), HWR.out.1, HWR.out.2⟩, by simp only [intOf]; omega⟩
  ·obtain rfl : r = 0 := by omega
   have hv := hv.out
   have hm := hm.out
   rw [List.drop_zero, List.drop_zero] at hv
   rw [List.drop_zero] at hm
   have hA := hR.arr' (n := X.length) (c := X.length) hlQ (by omega) (by omega)
   have TQ := Be (trim _ X.length X.length Q wr hA)
   have TR := Be (trim _ 1 1 [L] _ (Db (w := wr) rfl L hL0 (by omega)))
   have hT1 := hA.trim
   have hT2 := (Db (w := wr) rfl L hL0 (by omega)).trim
   rw [Ds] at TR hT2
   rw [hv] at TQ hT1
   have HM := Be hm
   clear hv hm
   go_wp2_with fail
   refine TQ.out.mono ?_; rintro r w' ⟨rfl, rfl⟩
   go_wp2_with fail
   refine TR.out.mono ?_; rintro r w' ⟨rfl, rfl⟩
   go_wp2_with fail
   refine bodyPost_ret (v := .tuple #[.slice (some ⟨g, 0, none⟩) (wd (val X / z)).length X.length, .slice (some ⟨wr.heap.size, 0, none⟩) (wd L).length 1, .bool true]) (by simp [results, Tryz.results99, go_sem]) rfl ?_
   exact ⟨_, _, _, _, _, _, rfl, hT1.below (Ba (Bb _) _), by rw [← HM.out]; exact hT2, Ba hW _⟩
theorem Mv (g i k n1 : Nat) (S : List Int) (cu : Nat) (A : Option Addr) (c : Nat) (ds : List Int) (G : Int) (w : World) (hr : Row w g S) (hd : Arr w A k c ds) (hne : blk A k = none ∨ blk A k ≠ some g) (hS : S.length = n1) (hkl : i + k + 1 ≤ n1)
  (hcu : k + 1 ≤ cu) (hcu' : cu ≤ 9223372036854775807) (hP : i ≤ 1000000000) (hk' : k ≤ 1000000000) (hG0 : 0 ≤ G) (hG : G < 18446744073709551616) (hD : 0 < val ds) (hq : val ((S.drop i).take (k + 1)) / val ds ≤ G) :
  Calls Tryz.prog 134 #[.slice (some ⟨g, i, none⟩) (k + 1) cu, .slice A k c, .int .u64 G] w fun e w' => e = .returned (.int .u64 (val ((S.drop i).take (k + 1)) / val ds)) ∧ (∃ Z', Z'.length = k + 1 ∧ val Z' = val ((S.drop i).take (k + 1)) - val ((S.drop i).take (k + 1)) / val ds * val ds ∧ Row w' g (S.take i ++ Z' ++ S.drop (i + k + 1))) ∧ w.grownBy w' (some g) := by
 subst hS
 have li : (S.take i).length = i := by rw [List.length_take]; omega
 have e : S.take i ++ (S.drop i).take (k + 1) ++ S.drop (i + k + 1) = S := by
  rw [show S.drop (i + k + 1) = (S.drop i).drop (k + 1) by rw [List.drop_drop]; congr 1, List.append_assoc, List.take_append_drop, List.take_append_drop]
 rw [← e] at hr
 have := less g (S.take i) ((S.drop i).take (k + 1)) (S.drop (i + k + 1)) cu A k c ds G w hr hd hne (by rw [List.length_take, List.length_drop]; omega) hcu hcu' (by omega) hk' hG0 hG hD hq
 rw [li] at this
 exact this
theorem Wx {g top l U : Int} (h : g * top + l = U) : (g - 1) * top + (l + top) = U := by grind
theorem Ba2 {g next a : Int} (h0 : 0 ≤ a) (hg : 0 ≤ g) (h : a < g * next) : 0 < g := by
 by_cases hh : 0 < g
 ·exact hh
 ·obtain rfl : g = 0 := by omega
  rw [Int.zero_mul] at h; omega
theorem Js (S : List Int) (i k j : Nat) (hj : j ≤ k) : ((S.drop i).take (k + 1)).getD j 0 = S.getD (i + j) 0 := by
 simp only [List.getD_eq_getElem?_getD, List.getElem?_take, List.getElem?_drop]
 rw [if_pos (by omega)]
theorem Bd8 {S DL : List Int} {i k : Nat} (hw : Wf S) (hd : Wf DL) (hl : i + k + 1 ≤ S.length) (hD : DL.length = k) (hk : 2 ≤ k) (htop : 0 < DL.getD (k - 1) 0) :
  val ((S.drop i).take (k + 1)) / val DL ≤ (S.getD (i + k) 0 * 18446744073709551616 + S.getD (i + k - 1) 0) / DL.getD (k - 1) 0 := by
 have hz : ((S.drop i).take (k + 1)).length = k + 1 := by rw [List.length_take, List.length_drop]; omega
 have hZw := (hw.drop i).take (k + 1)
 have e1 := Yh hz hk
 have e2 := Yg hD hk
 rw [Js _ _ _ _ (by omega), Js _ _ _ _ (by omega), Js _ _ _ _ (by omega), show i + (k - 1) = i + k - 1 by omega] at e1
 have n1 := hd.getD (k - 2)
 have n0 := hw.getD (i + (k - 2))
 have b1 := val_lt (hZw.take (k - 2))
 rw [List.length_take, Nat.min_eq_left (by omega)] at b1
 exact Bd9 (B_pow_pos (k - 2)) (val_nonneg (hd.take _)) b1 htop n1.1 (by rw [B_eq]; exact n0.2) e2 e1 (val_nonneg hZw)
theorem Bf7 {S DL : List Int} {i k : Nat} {g left : Int} (hw : Wf S) (hd : Wf DL) (hl : i + k + 1 ≤ S.length) (hD : DL.length = k) (hk : 2 ≤ k) (hDp : 0 < val DL) (hg : 0 ≤ g)
  (hI : g * DL.getD (k - 1) 0 + left = S.getD (i + k) 0 * 18446744073709551616 + S.getD (i + k - 1) 0) (hc : left * 18446744073709551616 + S.getD (i + k - 2) 0 < g * DL.getD (k - 2) 0) (ht : val ((S.drop i).take (k + 1)) / val DL ≤ g) :
  val ((S.drop i).take (k + 1)) / val DL ≤ g - 1 := by
 have hz : ((S.drop i).take (k + 1)).length = k + 1 := by rw [List.length_take, List.length_drop]; omega
 have hZw := (hw.drop i).take (k + 1)
 have e1 := Yh hz hk
 have e2 := Yg hD hk
 rw [Js _ _ _ _ (by omega), Js _ _ _ _ (by omega), Js _ _ _ _ (by omega), show i + (k - 1) = i + k - 1 by omega, show i + (k - 2) = i + k - 2 by omega] at e1
 have b1 := val_lt (hZw.take (k - 2))
 rw [List.length_take, Nat.min_eq_left (by omega)] at b1
 exact Bf8 (B_pow_pos (k - 2)) (val_nonneg (hd.take _)) b1 hg hDp e2 e1 hI hc ht
theorem Bda {Y : List Int} (hw : Wf Y) (ht : Top Y) (h0 : 0 < Y.length) {s : Nat} (hs : (64 : Int) - Lib.bitLen (Y[Y.length - 1]?.getD 0).toNat = s) :
  (wd (val Y * pw s)).length = Y.length ∧ B ^ (Y.length - 1) ≤ val Y ∧ val Y * pw s < B ^ Y.length ∧ 0 < (wd (val Y * pw s)).getD (Y.length - 1) 0 := by
 have hx := hw.getD (Y.length - 1)
 rw [List.getD_eq_getElem?_getD] at hx
 have hp : 0 < val Y := val_pos hw ht (by intro e; rw [e] at h0; exact absurd h0 (by simp))
 have hbl := Sl hw ht h0
 rw [← Ki hx.1 hx.2] at hs
 obtain ⟨a, ea, a0, a1⟩ := Gz hp
 have hps := pw_pos s
 have k2 : val Y * pw s < pw (a + 1) * pw s := Int.mul_lt_mul_of_pos_right a1 hps
 rw [← pw_add, show a + 1 + s = 64 * Y.length from by omega, ← B_pow_pw] at k2
 have k3 : B ^ (Y.length - 1) ≤ val Y := by
  have e : wd (val Y) = Y := wd_val hw ht
  exact pow_le_of_wd_length (by rw [e]; omega)
 have k4 : val Y * 1 ≤ val Y * pw s := Int.mul_le_mul_of_nonneg_left (by omega) (by omega)
 have n0 : 0 ≤ val Y * pw s := by omega
 have l1 := wd_length_le n0 k2
 have l2 : Y.length ≤ (wd (val Y * pw s)).length := by
  by_cases h : Y.length ≤ (wd (val Y * pw s)).length
  ·exact h
  ·have := lt_pow_of_wd_length n0 (k := Y.length - 1) (by omega)
   omega
 refine ⟨by omega, k3, k2, ?_⟩
 have htt := top_wd _ n0
 have hww := (wf_wd _ n0).getD (Y.length - 1)
 unfold Top at htt
 rw [List.getLast?_eq_getElem?, show (wd (val Y * pw s)).length - 1 = Y.length - 1 by omega, List.getElem?_eq_getElem (by omega)] at htt
 rw [List.getD_eq_getElem?_getD, List.getElem?_eq_getElem (by omega)] at hww ⊢
 simp only [Option.getD_some] at hww ⊢
 have : (wd (val Y * pw s))[Y.length - 1]'(by omega) ≠ 0 := by simpa using htt
 omega
theorem Row.other {w w' : World} {g : Nat} {xs : List Int} {r : Option Nat} (h : Row w g xs) (hg : w.grownBy w' r) (hne : some g ≠ r) : Row w' g xs := by
 obtain ⟨rest, hh⟩ := h.heap
 exact ⟨h.wf, rest, (hg.block g h.lt hne).trans hh⟩
theorem Row.setOther {w : World} {g k : Nat} {xs : List Int} (h : Row w g xs) (hne : g ≠ k) {o : Nat} (v : Value) : Row (w.setCell ⟨k, o, none⟩ v) g xs := h.other (Br w k o v) (by simpa using hne)
theorem Arr.setOther {w : World} {A : Option Addr} {n c k : Nat} {xs : List Int} (h : Arr w A n c xs) (hne : blk A n = none ∨ blk A n ≠ some k) {o : Nat} (v : Value) : Arr (w.setCell ⟨k, o, none⟩ v) A n c xs := h.other (Br w k o v) hne
theorem Yu (A A' : Option Addr) (n' c m' c' : Nat) (xs ys : List Int) (w : World) (h : Arr w A n' c xs) (h' : Arr w A' m' c' ys) (hn : n' ≤ 100000000) (h1 : val ys ≤ val xs) (h2 : 2 ≤ (wd (val ys)).length) :
  Calls Tryz.prog 99 #[.slice A n' c, .slice A' m' c'] w (Jh (val xs) (val ys) w) := by
 have hx := h.trim
 have hy := h'.trim
 have vx := h.val_nonneg
 have h0 : 0 < val ys := by
  by_cases hh : 0 < val ys
  ·exact hh
  ·rw [wd_zero (by omega)] at h2; simp at h2
 have T := Be (trim A n' c xs w h)
 have T' := Be (trim A' m' c' ys w h')
 have C := Be (Qp A A' _ c _ c' _ _ w hx hy)
 have nl : (wd (val xs)).length ≤ 100000000 := Nat.le_trans (wd_len h.wf) (by rw [h.len]; exact hn)
 have ll : (wd (val ys)).length ≤ (wd (val xs)).length := wd_length_le (by omega) (Int.lt_of_le_of_lt h1 (lt_pow_of_wd_length vx (Nat.le_refl _)))
 rw [val_wd _ vx, val_wd _ (by omega)] at C
 have vX := val_wd (val xs) vx
 have vY := val_wd (val ys) (by omega)
 have wX := hx.wf
 have wY := hy.wf
 have tY := top_wd (val ys) (by omega)
 unfold Jh Rl Rm
 rw [if_neg (by omega), if_neg (by omega), decide_eq_true h0]
 have hc : Cs (val xs) (val ys) = 0 ∨ Cs (val xs) (val ys) = 1 := by unfold Cs; rw [if_neg (by omega)]; split <;> simp
 generalize Cs (val xs) (val ys) = q at *
 have hq : decide (q < 0) = false := by simp; omega
 generalize wd (val xs) = X at *
 generalize wd (val ys) = Y at *
 generalize val xs = x at *
 generalize val ys = y at *
 subst vX
 subst vY
 obtain ⟨s, hs⟩ : ∃ s : Nat, (64 : Int) - Lib.bitLen (Y[Y.length - 1]?.getD 0).toNat = s := ⟨64 - Lib.bitLen (Y[Y.length - 1]?.getD 0).toNat, by
  have hh := wY.getD (Y.length - 1)
  rw [List.getD_eq_getElem?_getD] at hh
  have := Ki hh.1 hh.2
  have h2 := Gc (v := Y[Y.length - 1]?.getD 0) (a := 64) hh.1 (by rw [← B_pw, B_eq]; exact hh.2)
  omega⟩
 obtain ⟨dl, dlo, dhi, Bbj⟩ := Bda wY tY (by omega) hs
 have hyt := wY.getD (Y.length - 1)
 rw [List.getD_eq_getElem?_getD] at hyt
 have hs64 : s ≤ 64 := by
  have : (0 : Int) ≤ Lib.bitLen (Y[Y.length - 1]?.getD 0).toNat := by omega
  omega
 have hp := pw_pos s
 have L := Yy (Y[Y.length - 1]?.getD 0) w hyt.1 hyt.2
 rw [hs] at L
 have LH := Be (fun w' (hst : Still w w') => Yy (Y[Y.length - 1]?.getD 0) w' hyt.1 hyt.2)
 rw [hs] at LH
 have SB := Be (fun w' (hb : Below w.heap.size w w') => shl A' Y.length c' Y (s : Int) w' (hy.below hb) (by omega) (by omega) (by omega))
 have SA := Be (fun w' (hb : Below w.heap.size w w') => shl A X.length c X (s : Int) w' (hx.below hb) (by omega) (by omega) (by omega))
 rw [Dm (by omega) (by omega), Int.toNat_natCast] at SB SA
 have HX0 := Be h1
 have hdn : 0 ≤ val Y * pw s := Int.mul_nonneg (by omega) (by omega)
 have hxn : 0 ≤ val X * pw s := Int.mul_nonneg (by omega) (by omega)
 have vD := val_wd (val Y * pw s) hdn
 have wD := wf_wd (val Y * pw s) hdn
 have vS := val_wd (val X * pw s) hxn
 have wS := wf_wd (val X * pw s) hxn
 have lS : (wd (val X * pw s)).length ≤ X.length + 1 := by
  apply wd_length_le hxn
  have a1 := val_lt wX
  have a2 : val X * pw s < B ^ X.length * pw s := Int.mul_lt_mul_of_pos_right a1 hp
  have a3 : B ^ X.length * pw s ≤ B ^ X.length * B := Int.mul_le_mul_of_nonneg_left (by rw [B_pw]; exact pw_le hs64) (Int.le_of_lt (B_pow_pos _))
  rw [Int.pow_succ]; omega
 have hXlt := val_lt wX
 have e2s : (2 : Int) ^ s = pw s := rfl
 rw [e2s] at SB SA
 generalize hDe : val Y * pw s = D at *
 generalize hNe : val X * pw s = N at *
 generalize hDLe : wd D = DL at *
 generalize hSLe : wd N = SL at *
 clear L h1
 go_enter Tryz.func99, Tryz.ntmps99
 go_wp2_with fail
 refine T.out.mono ?_; rintro r w' ⟨rfl, rfl⟩
 go_wp2_with fail
 refine T'.out.mono ?_; rintro r w' ⟨rfl, rfl⟩
 go_wp2_with fail
 refine C.out.mono ?_; rintro r w0 ⟨rfl, hst⟩
 have hb0 := hst.below w.heap.size
 obtain ⟨b', o', eA', hlt', hc'⟩ := (hy.below (hst.below _)).mem (by omega)
 have k1 := hc' (Y.length - 1) (by omega)
 rw [List.getD_eq_getElem?_getD] at k1
 have LH0 := Be (LH.out w0 hst)
 generalize Y[Y.length - 1]?.getD 0 = yt at *
 subst eA'
 clear hc'
 go_wp2_with fail
 refine LH0.out.mono ?_; rintro r w' ⟨rfl, rfl⟩
 clear k1 hlt' LH0 LH
 go_wp2_with fail
 refine (SB.out _ hb0).mono ?_; rintro r w1 ⟨Ad, k, cd, rfl, hAd, hb1⟩
 have hw1 := Bc hb0 hb1
 obtain rfl : k = Y.length := by rw [← hAd.len]; exact dl
 clear SB hb1
 go_wp2_with (at_make; refine Jc rfl _ _ rfl _ _ (X.length + 1) rfl rfl ?m1 ?m2 ?m3 ?_)
 case m1 => omega
 case m2 => omega
 case m3 => omega
 intro gu w2 hgu' hrow hb2
 have apd := hAd.apart (g := gu) (by omega)
 have hw2 := Bc hw1 (hgu' ▸ hb2)
 have hgu : w.heap.size ≤ gu := by rw [hgu']; exact hw1.size
 have HGU := Be hgu'
 have ltu := hrow.lt
 clear hgu'
 go_wp2_with fail
 refine (SA.out _ hw2).mono ?_; rintro r w3 ⟨As, ns, cs, rfl, hAs, hb3⟩
 have hw3 := Bc hw2 hb3
 have hrow3 := hrow.below hb3 ltu
 have hns := hAs.len
 have hb13 : Below gu w1 w3 := hb2.trans (hb3.mono (Nat.le_of_lt ltu))
 have hgu3 : gu < w3.heap.size := hrow3.lt
 clear SA hrow hb3
 go_wp2_with (refine Bb0 rfl _ _ rfl gu (X.length + 1) (X.length + 1) _ As ns cs SL rfl rfl hrow3 ?m1 hAs ?m2 gu (Below.refl gu w3) (Nat.le_refl _) ?_)
 case m1 => simp
 case m2 => omega
 intro w4 hrow4 hb4
 have hz := Ur SL (X.length + 1 - ns)
 have hlen : (SL ++ List.replicate (X.length + 1 - ns) (0 : Int)).length = X.length + 1 := by simp; omega
 generalize SL ++ List.replicate (X.length + 1 - ns) (0 : Int) = S0 at *
 rw [vS] at hz
 have HZ := Be hz
 have hw4 : Below w.heap.size w w4 := hw3.trans (hb4.mono hgu)
 have hAd4 := hAd.below (HGU.out ▸ hb13.trans hb4)
 have hDp : 0 < val DL := by rw [vD]; rw [← hDe]; exact Int.mul_pos h0 hp
 have HDp := Be hDp
 have HDk : Hid (val DL < B ^ Y.length) := by show _ < _; rw [vD]; exact dhi
 have KF := Be (fun (S : List Int) (i : Nat) (a : Wf S) (b : i + Y.length + 1 ≤ S.length) => Bd8 a wD b dl h2 Bbj)
 have KN := Be (fun (S : List Int) (i : Nat) (g left : Int) (a : Wf S) (b : i + Y.length + 1 ≤ S.length) (c : 0 ≤ g) hI hc ht => Bf7 (g := g) (left := left) a wD b dl h2 hDp c hI hc ht)
 have hst : val (S0.drop (X.length - Y.length + 1)) < val DL := by
  rw [vD, ← hDe]
  exact Bdb hrow4.wf (by rw [hz, hNe]) hXlt (by omega) ll dlo
 have HST := Be hst
 have dt1 := wD.getD (Y.length - 1)
 have dt2 := wD.getD (Y.length - 2)
 obtain ⟨bd, od, eAd, ltd, hcd⟩ := hAd4.mem (by omega)
 have kd1 := hcd (Y.length - 1) (by omega)
 have kd2 := hcd (Y.length - 2) (by omega)
 clear hcd hz hst hAs hrow3 hb4 hb13 hDp
 generalize DL.getD (Y.length - 1) 0 = top at *
 generalize DL.getD (Y.length - 2) 0 = next at *
 subst eAd
 go_wp2_with fail
 go_quiet (fail)
 go_wp2_with (at_make; refine Jc rfl _ _ rfl _ _ (X.length - Y.length + 1) rfl rfl ?m1 ?m2 ?m3 ?_)
 case m1 => omega
 case m2 => omega
 case m3 => omega
 intro gq w5 hgq' hrow5 hb5
 have hw4' : Below w.heap.size w (w4.drewN nq) := Bd hw4 nq
 have hAd4' := hAd4.below (Bd (Bb w4) nq)
 have hAd5 := hAd4'.below (hgq' ▸ hb5)
 have apq := hAd4'.apart (g := gq) (Nat.le_of_eq hgq'.symm)
 have hlt4 : gu < gq := by rw [hgq']; exact hrow4.lt
 have hU5 := (hrow4.drewN nq).below hb5 hlt4
 have hgq : w.heap.size ≤ gq := by omega
 have hw5 := Bc hw4' (hgq' ▸ hb5)
 clear hgq' hb5 hrow4 hAd4 hAd4' hAd kd1 kd2 hw4 hw4' hw1 hw2 hw3 hb0
 go_wp2_with fail
 go_loopw [17] (fun vi wr => ∃ (r : Nat) (S Q : List Int), r ≤ X.length - Y.length + 1 ∧ vi = .int .i64 ((r : Int) - 1) ∧ S.length = X.length + 1 ∧ Q.length = X.length - Y.length + 1 ∧ Row wr gu S ∧ Row wr gq Q ∧ Arr wr (some ⟨bd, od, none⟩) Y.length cd DL ∧ Below w.heap.size w wr ∧ Hid (val S + B ^ r * val (Q.drop r) * val DL = N) ∧ Hid (val (S.drop r) < val DL)) (fun vi _ => (intOf vi + 1).toNat)
 case atStart => exact ⟨X.length - Y.length + 1, S0, _, Nat.le_refl _, by go_num, hlen, by simp, hU5, hrow5, hAd5, hw5, by (show _ = _; rw [List.drop_eq_nil_of_le (by simp), val_nil, Int.mul_zero, Int.zero_mul, Int.add_zero]; exact HZ.out), HST.out⟩
 case round =>
  clear hU5 hrow5 hAd5 hw5 hlen HZ HST
  obtain ⟨r, S, Q, hr, rfl, hSl, hQl, hRu, hRq, hAd, hW, hv, hb⟩ := hrel
  by_cases hr0 : 0 < r
  ·obtain ⟨i, rfl⟩ : ∃ i, r = i + 1 := ⟨r - 1, by omega⟩
   have ei : (((i + 1 : Nat) : Int) - 1) = (i : Int) := by omega
   rw [ei]
   have hkl : i + Y.length + 1 ≤ X.length + 1 := by omega
   have KF1 := KF.out S i hRu.wf (by omega)
   have KN1 := Be (fun g left => KN.out S i g left hRu.wf (by omega))
   have KL := kn_lt (k := Y.length) hRu.wf (by omega) hb.out
   have c2' := hRu.cell (i + Y.length) (by omega)
   have c1' := hRu.cell (i + Y.length - 1) (by omega)
   have c0' := hRu.cell (i + Y.length - 2) (by omega)
   have s2 := hRu.wf.getD (i + Y.length)
   have s1 := hRu.wf.getD (i + Y.length - 1)
   have s0 := hRu.wf.getD (i + Y.length - 2)
   have hte : ∃ tq, val ((S.drop i).take (Y.length + 1)) / val DL = tq := ⟨_, rfl⟩
   obtain ⟨tq, hte⟩ := hte
   rw [hte] at KF1 KL
   simp only [hte] at KN1
   generalize S.getD (i + Y.length) 0 = u2 at *
   generalize S.getD (i + Y.length - 1) 0 = u1 at *
   generalize hu0 : S.getD (i + Y.length - 2) 0 = u0 at *
   have HU0 := Be hu0
   clear hu0
   have hte := Be hte
   have KFH := Be KF1
   have tq0 := KL.2
   have tq1 : tq < 18446744073709551616 := by have := KL.1; rw [B_eq] at this; omega
   have tp0 := dt1.1
   have tp1 := dt1.2
   clear KF1 KL
   by_cases hu : u2 < top
   ·have D64 := Be (fun w => Bd1 u2 u1 top w s2.1 s1.1 s1.2 hu dt1.2)
    have qe := Int.mul_ediv_add_emod (u2 * 18446744073709551616 + u1) top
    have qb0 : 0 ≤ (u2 * 18446744073709551616 + u1) / top := Int.ediv_nonneg (by omega) (by omega)
    have qb1 : (u2 * 18446744073709551616 + u1) / top < 18446744073709551616 := Int.ediv_lt_of_lt_mul Bbj (by omega)
    have rb0 : 0 ≤ (u2 * 18446744073709551616 + u1) % top := Int.emod_nonneg _ (by omega)
    have rb1 : (u2 * 18446744073709551616 + u1) % top < top := Int.emod_lt_of_pos _ Bbj
    generalize (u2 * 18446744073709551616 + u1) / top = q1 at *
    generalize (u2 * 18446744073709551616 + u1) % top = r1 at *
    have HQE : Hid (q1 * top + r1 = u2 * 18446744073709551616 + u1) := by show _ = _; rw [Int.mul_comm]; exact qe
    clear qe
    go_wp2_with fail
    go_quiet ((go_at_call 130; exact Calls.quiet_of (D64.out _)))
    go_wp2_with fail
    go_loopw [18, 19] (fun vg vl wr => ∃ (g l : Int), vg = .int .u64 g ∧ vl = .int .u64 l ∧ 0 ≤ g ∧ g < 18446744073709551616 ∧ 0 ≤ l ∧ l < 18446744073709551616 ∧ Hid (g * top + l = u2 * 18446744073709551616 + u1) ∧ Hid (tq ≤ g) ∧ Row wr gu S ∧ Row wr gq Q ∧ Arr wr (some ⟨bd, od, none⟩) Y.length cd DL ∧ Below w.heap.size w wr) (fun vg _ _ => (intOf vg).toNat)
    case atStart => exact ⟨q1, r1, rfl, rfl, qb0, qb1, rb0, by omega, HQE.out, KFH.out, hRu.drewN _, hRq.drewN _, hAd.below (Bd (Bb _) _), Bd hW _⟩
    case round =>
     clear hRu hRq hAd hW c0' c1' c2'
     obtain ⟨g, l, rfl, rfl, hg0, hg1, hl0, hl1, hI, ht, hRu, hRq, hAd, hW⟩ := hrel
     have c0' := hRu.cell (i + Y.length - 2) (by omega)
     have hu0 : S.getD (i + Y.length - 2) 0 = u0 := HU0.out
     rw [hu0] at c0'
     clear hu0
     obtain ⟨hi', lo, e1, e2, e3, l0, l1, h2', h3'⟩ := Bdg g next hg0 hg1 dt2.1 dt2.2
     have HM := Be (Bg3 g next wr hg0 hg1 dt2.1 dt2.2)
     rw [e1, e2] at HM
     have hcase : hi' < l ∨ (hi' = l ∧ lo ≤ u0) ∨ l < hi' ∨ (hi' = l ∧ u0 < lo) := by omega
     rcases hcase with hk | ⟨hk, hk2⟩ | hk | ⟨hk, hk2⟩
     ·have d5 : decide (hi' < l) = true := by simp; omega
      have HG := ht
      clear e1 e2 e3 h3'
      (go_wp2_with fail; refine HM.out.mono ?_; rintro r w' ⟨rfl, rfl⟩; (go_wp2_with fail; rw [show i + Y.length + 1 - i = Y.length + 1 from by omega]; refine (Mv gu i Y.length (X.length + 1) S (X.length + 1 - i) (some ⟨bd, od, none⟩) cd DL (g) _ hRu hAd apd hSl hkl (by omega) (by omega) (by omega) (by omega) (by omega) (by omega) HDp.out (by rw [hte.out]; exact HG.out)).mono ?_; rintro r w5 ⟨rfl, ⟨Z', hl', hz', hR5⟩, hg5⟩; have hQ5 := hRq.other hg5 (by simp; omega); have hD5 := hAd.other hg5 apd; have hW5 := hW.trans (Cf hg5 hW.size (fun q hq => by cases hq; exact hgu)); have r2 := hQ5.free i; have r1 := hQ5.cell i (by omega); have hset := hQ5.set i (by omega) tq tq0 tq1; have hround := Kx (Z' := Z') (V := val (Q.drop (i + 1))) (N := N) hRu.wf (by omega) HDp.out HDk.out hv.out hb.out hz'; rw [hte.out] at hround ⊢; have hsd := Ft (Q := Q) (i := i) (by omega) tq; have HV : Hid (val (S.take i ++ Z' ++ S.drop (i + Y.length + 1)) + B ^ i * val ((Q.set i tq).drop i) * val DL = N) := (by show _ = _; rw [hsd]; exact hround.1); have HB2 := Be hround.2; have hlS : (S.take i ++ Z' ++ S.drop (i + Y.length + 1)).length = X.length + 1 := (by simp only [List.length_append, List.length_take, List.length_drop]; omega); clear hround hsd hz'; go_wp2_with fail; exact ⟨⟨i, _, _, by omega, by go_num, hlS, by rw [List.length_set]; exact hQl, hR5.setOther (by omega) _, hset, hD5.setOther apq _, Bo hW5 _ _ hgq _, HV.out, HB2.out⟩, by simp only [intOf]; omega⟩))
     ·have hk3 := hk.symm
      subst hk3
      have d5 : decide (l < l) = false := by simp
      have d6 : decide (lo ≤ u0) = true := by simp; omega
      have HG := ht
      clear e1 e2 e3 h3'
      (go_wp2_with fail; refine HM.out.mono ?_; rintro r w' ⟨rfl, rfl⟩; (go_wp2_with fail; rw [show i + Y.length + 1 - i = Y.length + 1 from by omega]; refine (Mv gu i Y.length (X.length + 1) S (X.length + 1 - i) (some ⟨bd, od, none⟩) cd DL (g) _ hRu hAd apd hSl hkl (by omega) (by omega) (by omega) (by omega) (by omega) (by omega) HDp.out (by rw [hte.out]; exact HG.out)).mono ?_; rintro r w5 ⟨rfl, ⟨Z', hl', hz', hR5⟩, hg5⟩; have hQ5 := hRq.other hg5 (by simp; omega); have hD5 := hAd.other hg5 apd; have hW5 := hW.trans (Cf hg5 hW.size (fun q hq => by cases hq; exact hgu)); have r2 := hQ5.free i; have r1 := hQ5.cell i (by omega); have hset := hQ5.set i (by omega) tq tq0 tq1; have hround := Kx (Z' := Z') (V := val (Q.drop (i + 1))) (N := N) hRu.wf (by omega) HDp.out HDk.out hv.out hb.out hz'; rw [hte.out] at hround ⊢; have hsd := Ft (Q := Q) (i := i) (by omega) tq; have HV : Hid (val (S.take i ++ Z' ++ S.drop (i + Y.length + 1)) + B ^ i * val ((Q.set i tq).drop i) * val DL = N) := (by show _ = _; rw [hsd]; exact hround.1); have HB2 := Be hround.2; have hlS : (S.take i ++ Z' ++ S.drop (i + Y.length + 1)).length = X.length + 1 := (by simp only [List.length_append, List.length_take, List.length_drop]; omega); clear hround hsd hz'; go_wp2_with fail; exact ⟨⟨i, _, _, by omega, by go_num, hlS, by rw [List.length_set]; exact hQl, hR5.setOther (by omega) _, hset, hD5.setOther apq _, Bo hW5 _ _ hgq _, HV.out, HB2.out⟩, by simp only [intOf]; omega⟩))
     ·have d5 : decide (hi' < l) = false := by simp; omega
      have d6 : (hi' == l) = false := beq_eq_false_iff_ne.2 (by omega)
      (have hlt : l * 18446744073709551616 + u0 < g * next := (by rw [e3]; omega); have hgn : 0 < g := Ba2 (by omega) hg0 hlt; have hn := KN1.out g l hg0 hI.out hlt ht.out; obtain ⟨l2, c2, ha1, e4, l3, l4, l5, l6⟩ := Sh l top hl0 hl1 tp0 tp1 wr; have HG : Hid (tq ≤ g - 1) := hn; have nI : (g - 1) * top + (l + top) = u2 * 18446744073709551616 + u1 := Wx hI.out; clear hn hlt e1 e2 e3; by_cases hc2 : 0 < c2; (· have d7 : decide (0 < c2) = true := (by simp; omega); clear e4 nI; (go_wp2_with fail; refine HM.out.mono ?_; rintro r w' ⟨rfl, rfl⟩; (go_wp2_with fail; rw [show i + Y.length + 1 - i = Y.length + 1 from by omega]; refine (Mv gu i Y.length (X.length + 1) S (X.length + 1 - i) (some ⟨bd, od, none⟩) cd DL (g - 1) _ hRu hAd apd hSl hkl (by omega) (by omega) (by omega) (by omega) (by omega) (by omega) HDp.out (by rw [hte.out]; exact HG.out)).mono ?_; rintro r w5 ⟨rfl, ⟨Z', hl', hz', hR5⟩, hg5⟩; have hQ5 := hRq.other hg5 (by simp; omega); have hD5 := hAd.other hg5 apd; have hW5 := hW.trans (Cf hg5 hW.size (fun q hq => by cases hq; exact hgu)); have r2 := hQ5.free i; have r1 := hQ5.cell i (by omega); have hset := hQ5.set i (by omega) tq tq0 tq1; have hround := Kx (Z' := Z') (V := val (Q.drop (i + 1))) (N := N) hRu.wf (by omega) HDp.out HDk.out hv.out hb.out hz'; rw [hte.out] at hround ⊢; have hsd := Ft (Q := Q) (i := i) (by omega) tq; have HV : Hid (val (S.take i ++ Z' ++ S.drop (i + Y.length + 1)) + B ^ i * val ((Q.set i tq).drop i) * val DL = N) := (by show _ = _; rw [hsd]; exact hround.1); have HB2 := Be hround.2; have hlS : (S.take i ++ Z' ++ S.drop (i + Y.length + 1)).length = X.length + 1 := (by simp only [List.length_append, List.length_take, List.length_drop]; omega); clear hround hsd hz'; go_wp2_with fail; exact ⟨⟨i, _, _, by omega, by go_num, hlS, by rw [List.length_set]; exact hQl, hR5.setOther (by omega) _, hset, hD5.setOther apq _, Bo hW5 _ _ hgq _, HV.out, HB2.out⟩, by simp only [intOf]; omega⟩))); (· obtain rfl : c2 = 0 := (by omega); have e5 : l2 = l + top := (by omega); have NI : Hid ((g - 1) * top + l2 = u2 * 18446744073709551616 + u1) := (by show _ = _; rw [e5]; exact nI); clear e4 e5 nI; go_wp2_with fail; refine HM.out.mono ?_; rintro r w' ⟨rfl, rfl⟩; go_wp2_with fail; exact ⟨⟨g - 1, l2, by go_num, rfl, by omega, by omega, l3, l4, NI.out, HG.out, hRu, hRq, hAd, hW⟩, by simp only [intOf]; omega⟩))
     ·have hk3 := hk.symm
      subst hk3
      have d5 : decide (l < l) = false := by simp
      have d6 : decide (lo ≤ u0) = false := by simp; omega
      (have hlt : l * 18446744073709551616 + u0 < g * next := (by rw [e3]; omega); have hgn : 0 < g := Ba2 (by omega) hg0 hlt; have hn := KN1.out g l hg0 hI.out hlt ht.out; obtain ⟨l2, c2, ha1, e4, l3, l4, l5, l6⟩ := Sh l top hl0 hl1 tp0 tp1 wr; have HG : Hid (tq ≤ g - 1) := hn; have nI : (g - 1) * top + (l + top) = u2 * 18446744073709551616 + u1 := Wx hI.out; clear hn hlt e1 e2 e3; by_cases hc2 : 0 < c2; (· have d7 : decide (0 < c2) = true := (by simp; omega); clear e4 nI; (go_wp2_with fail; refine HM.out.mono ?_; rintro r w' ⟨rfl, rfl⟩; (go_wp2_with fail; rw [show i + Y.length + 1 - i = Y.length + 1 from by omega]; refine (Mv gu i Y.length (X.length + 1) S (X.length + 1 - i) (some ⟨bd, od, none⟩) cd DL (g - 1) _ hRu hAd apd hSl hkl (by omega) (by omega) (by omega) (by omega) (by omega) (by omega) HDp.out (by rw [hte.out]; exact HG.out)).mono ?_; rintro r w5 ⟨rfl, ⟨Z', hl', hz', hR5⟩, hg5⟩; have hQ5 := hRq.other hg5 (by simp; omega); have hD5 := hAd.other hg5 apd; have hW5 := hW.trans (Cf hg5 hW.size (fun q hq => by cases hq; exact hgu)); have r2 := hQ5.free i; have r1 := hQ5.cell i (by omega); have hset := hQ5.set i (by omega) tq tq0 tq1; have hround := Kx (Z' := Z') (V := val (Q.drop (i + 1))) (N := N) hRu.wf (by omega) HDp.out HDk.out hv.out hb.out hz'; rw [hte.out] at hround ⊢; have hsd := Ft (Q := Q) (i := i) (by omega) tq; have HV : Hid (val (S.take i ++ Z' ++ S.drop (i + Y.length + 1)) + B ^ i * val ((Q.set i tq).drop i) * val DL = N) := (by show _ = _; rw [hsd]; exact hround.1); have HB2 := Be hround.2; have hlS : (S.take i ++ Z' ++ S.drop (i + Y.length + 1)).length = X.length + 1 := (by simp only [List.length_append, List.length_take, List.length_drop]; omega); clear hround hsd hz'; go_wp2_with fail; exact ⟨⟨i, _, _, by omega, by go_num, hlS, by rw [List.length_set]; exact hQl, hR5.setOther (by omega) _, hset, hD5.setOther apq _, Bo hW5 _ _ hgq _, HV.out, HB2.out⟩, by simp only [intOf]; omega⟩))); (· obtain rfl : c2 = 0 := (by omega); have e5 : l2 = l + top := (by omega); have NI : Hid ((g - 1) * top + l2 = u2 * 18446744073709551616 + u1) := (by show _ = _; rw [e5]; exact nI); clear e4 e5 nI; go_wp2_with fail; refine HM.out.mono ?_; rintro r w' ⟨rfl, rfl⟩; go_wp2_with fail; exact ⟨⟨g - 1, l2, by go_num, rfl, by omega, by omega, l3, l4, NI.out, HG.out, hRu, hRq, hAd, hW⟩, by simp only [intOf]; omega⟩))
   ·have HG : Hid (tq ≤ 18446744073709551615) := by show _ ≤ _; omega
    (go_wp2_with fail; rw [show i + Y.length + 1 - i = Y.length + 1 from by omega]; refine (Mv gu i Y.length (X.length + 1) S (X.length + 1 - i) (some ⟨bd, od, none⟩) cd DL (18446744073709551615) _ hRu hAd apd hSl hkl (by omega) (by omega) (by omega) (by omega) (by omega) (by omega) HDp.out (by rw [hte.out]; exact HG.out)).mono ?_; rintro r w5 ⟨rfl, ⟨Z', hl', hz', hR5⟩, hg5⟩; have hQ5 := hRq.other hg5 (by simp; omega); have hD5 := hAd.other hg5 apd; have hW5 := hW.trans (Cf hg5 hW.size (fun q hq => by cases hq; exact hgu)); have r2 := hQ5.free i; have r1 := hQ5.cell i (by omega); have hset := hQ5.set i (by omega) tq tq0 tq1; have hround := Kx (Z' := Z') (V := val (Q.drop (i + 1))) (N := N) hRu.wf (by omega) HDp.out HDk.out hv.out hb.out hz'; rw [hte.out] at hround ⊢; have hsd := Ft (Q := Q) (i := i) (by omega) tq; have HV : Hid (val (S.take i ++ Z' ++ S.drop (i + Y.length + 1)) + B ^ i * val ((Q.set i tq).drop i) * val DL = N) := (by show _ = _; rw [hsd]; exact hround.1); have HB2 := Be hround.2; have hlS : (S.take i ++ Z' ++ S.drop (i + Y.length + 1)).length = X.length + 1 := (by simp only [List.length_append, List.length_take, List.length_drop]; omega); clear hround hsd hz'; go_wp2_with fail; exact ⟨⟨i, _, _, by omega, by go_num, hlS, by rw [List.length_set]; exact hQl, hR5.setOther (by omega) _, hset, hD5.setOther apq _, Bo hW5 _ _ hgq _, HV.out, HB2.out⟩, by simp only [intOf]; omega⟩)
  ·obtain rfl : r = 0 := by omega
   have hfin := Bgu (Qs := Q) hRu.wf h0 (by rw [vD, hDe]) (by rw [hNe]) hv.out hb.out
   have hA := hRq.arr' (n := X.length - Y.length + 1) (c := X.length - Y.length + 1) hQl (by omega) (by omega)
   have hA2 := hRu.arr' (n := X.length + 1) (c := X.length + 1) hSl (by omega) (by omega)
   have TQ := Be (trim _ _ _ Q wr hA)
   have SR := Be (shr _ _ _ S (s : Int) wr hA2 (by omega) (by omega) (by omega))
   have hT1 := hA.trim
   rw [hfin.1] at TQ hT1
   have hsv : Vt (val S) (s : Int) = val X % val Y := by
    rw [Gs (by omega) (by omega), Int.toNat_natCast]; exact hfin.2
   rw [hsv] at SR
   clear hfin hsv hv hb
   go_wp2_with fail
   refine TQ.out.mono ?_; rintro r w' ⟨rfl, rfl⟩
   go_wp2_with fail
   refine SR.out.mono ?_; rintro r w6 ⟨A6, n6, c6, rfl, hA6, hb6⟩
   go_wp2_with fail
   refine bodyPost_ret (v := .tuple #[.slice (some ⟨gq, 0, none⟩) (wd (val X / val Y)).length (X.length - Y.length + 1), .slice A6 n6 c6, .bool true]) (by simp [results, Tryz.results99, go_sem]) rfl ?_
   exact ⟨_, _, _, _, _, _, rfl, hT1.below hb6, hA6, Bc hW hb6⟩
theorem Bgr (A A' : Option Addr) (n c n' c' : Nat) (xs ys : List Int) (w : World) (h : Arr w A n c xs) (h' : Arr w A' n' c' ys) (hn : n ≤ 100000000) :
  Calls Tryz.prog 99 #[.slice A n c, .slice A' n' c'] w (Jh (val xs) (val ys) w) := by
 by_cases h0 : val ys = 0 ∨ val xs < val ys
 ·exact Va A A' n c n' c' xs ys w h h' hn h0
 ·have hp : 0 < val ys := by have := h'.val_nonneg; omega
  have hl : 0 < (wd (val ys)).length := List.length_pos_iff.2 (wd_ne_nil hp)
  by_cases h1 : (wd (val ys)).length = 1
  ·exact Wo A A' n c n' c' xs ys w h h' hn hp (by omega) h1
  ·exact Yu A A' n c n' c' xs ys w h h' hn (by omega) (by omega)
end Go.Proofs.YteffemhapnbaeaaGreatDoor
