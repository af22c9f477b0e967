/- Walks and laws that the claim's row needs. No conditions. -/
import Derived.Test.YteffemhapnbaeaaGreatDoorQaa
import Derived.BigQuiet
import Derived.Deep.RegionWith
set_option maxHeartbeats 16000000
set_option linter.unusedSimpArgs false
set_option linter.unusedVariables false
namespace Go.Proofs.YteffemhapnbaeaaGreatDoor
open Go.RowKit Num
set_option maxRecDepth 100000
theorem trim (A : Option Addr) (n c : Nat) (xs : List Int) (w : World) (h : Arr w A n c xs) :
  Calls Tryz.prog 115 #[.slice A n c] w fun e w' => e = .returned (.slice A (wd (val xs)).length c) ∧ w = w' := by
 have hl := h.len
 have hcap := h.cap
 have hbig := h.big
 go_enter Tryz.func115, Tryz.ntmps115
 go_wp2
 go_loop [0] (fun v => ∃ k : Nat, k ≤ n ∧ v = .slice A k c ∧ val (xs.take k) = val xs) (fun v => match v with | .slice _ k _ => k | _ => 0)
 case atStart => exact ⟨n, Nat.le_refl _, rfl, by rw [← hl, List.take_length]⟩
 case round =>
  obtain ⟨k, hk, rfl, hv⟩ := hrel
  have HV := Be hv
  have HL := Be hl
  clear hv hl
  by_cases h0 : 0 < k
  ·obtain ⟨b, o, rfl, hlt, hc⟩ := h.mem (by omega)
   have hcell := hc (k - 1) (by omega)
   clear hc
   go_wp2
   ·have hz : (xs[k - 1]?.getD 0 == 0) = true := by assumption
    have hz' : xs[k - 1]?.getD 0 = 0 := by simpa using hz
    exact ⟨⟨k - 1, by omega, rfl, trim_go h0 (by rw [HL.out]; exact hk) hz' HV.out⟩, by simp; omega⟩
   ·have hz : (xs[k - 1]?.getD 0 == 0) = false := by assumption
    have hz' : xs[k - 1]?.getD 0 ≠ 0 := by simpa using hz
    have e := trim_end h.wf h0 (by rw [HL.out]; exact hk) hz' HV.out
    go_ret
    refine ⟨?_, rfl⟩
    rw [e, List.length_take, HL.out, Nat.min_eq_left hk]
    rfl
  ·obtain rfl : k = 0 := by omega
   have e : wd (val xs) = [] := by rw [← HV.out]; exact wd_zero (Int.le_refl _)
   go_wp2
   go_ret
   exact ⟨by first | rfl | (rw [e]; rfl), rfl⟩
theorem Gk {x y : Int} (h : x < y) : Cs x y = -1 := by rw [Cs, if_pos h]
theorem Lh {x y : Int} (h : x = y) : Cs x y = 0 := by rw [Cs, if_neg (by omega), if_pos h]
theorem Jy {x y : Int} (h : y < x) : Cs x y = 1 := by rw [Cs, if_neg (by omega), if_neg (by omega)]
theorem Qp (A A' : Option Addr) (n c n' c' : Nat) (xs ys : List Int) (w : World) (h : Arr w A n c xs) (h' : Arr w A' n' c' ys) :
  Calls Tryz.prog 120 #[.slice A n c, .slice A' n' c'] w fun e w' => e = .returned (.int .i64 (Cs (val xs) (val ys))) ∧ Still w w' := by
 have hx := h.trim
 have hy := h'.trim
 have nx := h.val_nonneg
 have ny := h'.val_nonneg
 have bx := hx.cap
 have cx := hx.big
 have by' := hy.cap
 have cy := hy.big
 have wx := hx.wf
 have wy := hy.wf
 by_cases hl : (wd (val xs)).length = (wd (val ys)).length
 ·have HL := Be hl
  have hlb : (((wd (val xs)).length : Int) != ((wd (val ys)).length : Int)) = false := by simp [hl]
  clear hl
  go_enter Tryz.func120, Tryz.ntmps120
  go_wp2_with fail
  refine (trim A n c xs _ h).mono ?_; rintro e w' ⟨rfl, rfl⟩
  go_wp2_with fail
  refine (trim A' n' c' ys _ h').mono ?_; rintro e w' ⟨rfl, rfl⟩
  have e1 := HL.out
  generalize hX : wd (val xs) = X at *
  generalize hY : wd (val ys) = Y at *
  have HX := Be hX
  have HY := Be hY
  clear hX hY e1
  go_wp2
  go_loopw [5] (fun v wr => ∃ r : Nat, r ≤ X.length ∧ v = .int .i64 ((r : Int) - 1) ∧ Hid (X.drop r = Y.drop r) ∧ Still w wr) (fun v _ => (intOf v + 1).toNat)
  case atStart => exact ⟨X.length, Nat.le_refl _, rfl, by show _ = _; rw [List.drop_length, HL.out, List.drop_length], Still.refl _⟩
  case round =>
   obtain ⟨r, hr, rfl, hd, ⟨m, rfl⟩⟩ := hrel
   by_cases h0 : 0 < r
   ·obtain ⟨b, o, rfl, hlt, hc⟩ := hx.mem (by omega)
    obtain ⟨b', o', rfl, hlt', hc'⟩ := hy.mem (by rw [← HL.out]; omega)
    obtain ⟨q, rfl⟩ : ∃ q, r = q + 1 := ⟨r - 1, by omega⟩
    rw [show (((q + 1 : Nat) : Int) - 1) = (q : Int) from by omega]
    have k1 := hc q (by omega)
    have k2 := hc' q (by rw [← HL.out]; omega)
    have l1 : (q : Int) < X.length := by omega
    have l2 : (q : Int) < Y.length := by have := HL.out; omega
    clear hc hc'
    go_wp2
    go_quiet (fail)
    go_wp2
    ·have hne : (X[q]?.getD 0 != Y[q]?.getD 0) = true := by assumption
     have hne' : X[q]?.getD 0 ≠ Y[q]?.getD 0 := by simpa using hne
     go_quiet (fail)
     go_wp2
     ·have hlt : X[q]?.getD 0 < Y[q]?.getD 0 := by assumption
      have hv := lt_of_word wx HL.out wy (by omega) hd.out hlt
      rw [← HX.out, ← HY.out, val_wd _ nx, val_wd _ ny] at hv
      have e := Gk hv
      go_ret
      exact ⟨by rw [e]; rfl, (by repeat (first | exact Still.refl _ | apply Still.drewN | apply Still.drew))⟩
     ·have hge : Y[q]?.getD 0 ≤ X[q]?.getD 0 := by first | assumption | exact Int.not_lt.1 (by assumption)
      have hlen := HL.out
      have hv := lt_of_word wy hlen.symm wx (i := q) (by omega) hd.out.symm (by omega)
      rw [← HX.out, ← HY.out, val_wd _ nx, val_wd _ ny] at hv
      have e := Jy hv
      go_ret
      exact ⟨by rw [e]; rfl, (by repeat (first | exact Still.refl _ | apply Still.drewN | apply Still.drew))⟩
    ·have hne : (X[q]?.getD 0 != Y[q]?.getD 0) = false := by assumption
     have hne' : X[q]?.getD 0 = Y[q]?.getD 0 := by simpa using hne
     exact ⟨⟨q, by omega, rfl, drop_same HL.out (by omega) hd.out hne', (by repeat (first | exact Still.refl _ | apply Still.drewN | apply Still.drew))⟩, by simp only [intOf]; omega⟩
   ·obtain rfl : r = 0 := by omega
    have hd' : X = Y := hd.out
    have hv : val xs = val ys := by rw [← val_wd _ nx, ← val_wd _ ny, HX.out, HY.out, hd']
    have e := Lh hv
    have HE := Be e
    clear hv e hd' hd
    go_wp2
    go_ret
    exact ⟨by rw [HE.out]; rfl, (by repeat (first | exact Still.refl _ | apply Still.drewN | apply Still.drew))⟩
 ·have hlb : (((wd (val xs)).length : Int) != ((wd (val ys)).length : Int)) = true := by simp; omega
  by_cases hlt : (wd (val xs)).length < (wd (val ys)).length
  all_goals
   go_enter Tryz.func120, Tryz.ntmps120
   go_wp2_with fail
   refine (trim A n c xs _ h).mono ?_; rintro e w' ⟨rfl, rfl⟩
   go_wp2_with fail
   refine (trim A' n' c' ys _ h').mono ?_; rintro e w' ⟨rfl, rfl⟩
   go_wp2
   go_ret
  ·exact ⟨by rw [Gk (lt_of_len nx hlt)]; rfl, (by repeat (first | exact Still.refl _ | apply Still.drewN | apply Still.drew))⟩
  ·exact ⟨by rw [Jy (lt_of_len ny (by omega))]; rfl, (by repeat (first | exact Still.refl _ | apply Still.drewN | apply Still.drew))⟩
def Jm : Int := 1048576
def Vt (v n : Int) : Int := if 0 ≤ n ∧ n ≤ Jm then v / 2 ^ n.toNat else 0
theorem Bjg (A : Option Addr) (n c : Nat) (xs : List Int) (m r : Nat) (w : World) (h : Arr w A n c xs) (hn : n ≤ 17592186044416) (hr : r < 64) (hk : 64 * m + r ≤ 1048576) (hm : m < n) :
  Calls Tryz.prog 135 #[.slice A n c, .int .i64 ((64 * m + r : Nat) : Int)] w fun e w' => ∃ A' n' c', e = .returned (.slice A' n' c') ∧ Arr w' A' n' c' (wd (val (shrL r (xs.drop m)))) ∧ Below w.heap.size w w' := by
 have hl := h.len
 have hcap := h.cap
 have hbig := h.big
 have h1 : decide (((64 * m + r : Nat) : Int) < 0) = false := by simp; omega
 have h2 : decide (1048576 < ((64 * m + r : Nat) : Int)) = false := by simp; omega
 have q1 : ((64 * m + r : Nat) : Int) / 64 = m := by omega
 have q2 : ((64 * m + r : Nat) : Int) % 64 = r := by omega
 have q3 : decide ((n : Int) ≤ m) = false := by simp; omega
 generalize hK : ((64 * m + r : Nat) : Int) = K at *
 have hK0 : 0 ≤ K := by omega
 have hK1 : K ≤ 1048576 := by omega
 have HL := Be hl
 clear hK hl
 go_enter Tryz.func135, Tryz.ntmps135
 go_wp2_with (at_make; refine Jc rfl _ _ rfl _ _ (n - m) rfl rfl ?m1 ?m2 ?m3 ?_)
 case m1 => omega
 case m2 => omega
 case m3 => omega
 intro g w1 hg hrow hb
 have hbw : Below w.heap.size w w1 := hb.mono (Nat.le_of_eq hg.symm)
 have HG := Be hg
 clear hb hg
 go_wp2
 have hlen : (shrL r (xs.drop m)).length = n - m := by rw [shrL_length, List.length_drop, HL.out]
 have hget : ∀ i, i < n - m → (shrL r (xs.drop m)).getD i 0 = xs.getD (i + m) 0 / pw r + xs.getD (i + m + 1) 0 * pw (64 - r) % B := by
  intro i hi
  rw [shrL_get r _ i (by rw [List.length_drop, HL.out]; exact hi)]
  simp only [List.getD_eq_getElem?_getD, List.getElem?_drop]
  rw [show m + i = i + m from by omega, show m + (i + 1) = i + m + 1 from by omega]
 have hwT : Wf (shrL r (xs.drop m)) := wf_shrL (by omega) (h.wf.drop m)
 generalize hS : shrL r (xs.drop m) = T at *
 have HS := Be hS
 clear hS
 have HT := Be hlen
 have HGet := Be hget
 clear hlen hget
 go_loopw [33] (fun v wr => ∃ i : Nat, i ≤ n - m ∧ v = .int .i64 i ∧ Row wr g (fill T i) ∧ Below w.heap.size w wr) (fun v _ => n - m - (intOf v).toNat)
 case atStart => exact ⟨0, Nat.zero_le _, rfl, by rw [fill_zero, HT.out]; exact hrow, hbw⟩
 case round =>
  obtain ⟨i, hi, rfl, hR, hW⟩ := hrel
  by_cases h0 : i < n - m
  ·have hA := h.below hW
   obtain ⟨b, o, rfl, hlt, hc⟩ := hA.mem (by omega)
   have hgb : b < g := by
    obtain ⟨b', o', e, hlt', _⟩ := h.mem (by omega)
    cases e
    have := HG.out; omega
   have k1 := hc (i + m) (by omega)
   have x1 := hA.words (i + m)
   have k2 : i + m + 1 < n → wr.cell? ⟨b, o + (i + m + 1), none⟩ = some (.int .u64 (xs.getD (i + m + 1) 0)) := fun hh => hc (i + m + 1) hh
   have r1 := hR.cell i (by rw [fill_length _ _ (by rw [HT.out]; exact hi), HT.out]; exact h0)
   have r2 := hR.free i
   clear hc
   have v1 : 0 ≤ xs[i + m]?.getD 0 / 2 ^ r ∧ xs[i + m]?.getD 0 / 2 ^ r < 18446744073709551616 := by
    have hp : (0 : Int) < 2 ^ r := Int.pow_pos (by decide)
    rw [List.getD_eq_getElem?_getD] at x1
    exact ⟨Int.ediv_nonneg x1.1 (by omega), Int.lt_of_le_of_lt (Int.ediv_le_self _ x1.1) x1.2⟩
   have hW2 := Bo hW g i (by have := HG.out; omega) (.int .u64 (xs[i + m]?.getD 0 / 2 ^ r))
   have hR2 := hR.set i (by rw [fill_length _ _ (by rw [HT.out]; exact hi), HT.out]; exact h0) _ v1.1 v1.2
   have HV := Be v1
   clear v1
   go_wp2
   ·have hlt2 : i + m + 1 < n := by omega
    generalize wr.setCell ⟨g, i, none⟩ (.int .u64 (xs[i + m]?.getD 0 / 2 ^ r)) = w2 at *
    obtain ⟨b', o', e', hlt', hc⟩ := (h.below hW2).mem (by omega)
    cases e'
    have k3 := hc (i + m + 1) hlt2
    have r3 := hR2.cell i (by rw [List.length_set, fill_length _ _ (by rw [HT.out]; exact hi), HT.out]; exact h0)
    rw [getD_set_same _ _ _ (by rw [fill_length _ _ (by rw [HT.out]; exact hi), HT.out]; exact h0)] at r3
    have r4 := hR2.free i
    clear hc k1 k2 r1 r2
    go_region
    all_goals go_wp2
    have e : bits BinOp.or IntKind.u64 (xs[i + m]?.getD 0 / 2 ^ r) (IntKind.u64.wrap (xs[i + m + 1]?.getD 0 * 2 ^ (64 - r))) = T.getD i 0 := by
     rw [HGet.out i h0, List.getD_eq_getElem?_getD, List.getD_eq_getElem?_getD]
     rw [List.getD_eq_getElem?_getD] at x1
     exact Xf (by omega) x1.1 x1.2 (by rw [← List.getD_eq_getElem?_getD]; exact (h.words (i + m + 1)).1)
    refine ⟨⟨i + 1, by omega, by go_num, ?_, ?_⟩, by simp [intOf]; omega⟩
    ·exact (hR2.fill2 (by rw [HT.out]; exact h0) hwT _ e).drew
    ·exact (Bo hW2 g i (by have := HG.out; omega) _).drew
   ·have hge : n ≤ i + m + 1 := by omega
    have e : xs[i + m]?.getD 0 / 2 ^ r = T.getD i 0 := by
     have z : xs.getD (i + m + 1) 0 = 0 := by rw [List.getD_eq_getElem?_getD, List.getElem?_eq_none (by rw [HL.out]; exact hge)]; rfl
     rw [HGet.out i h0, z, List.getD_eq_getElem?_getD]
     simp [pw]
    refine ⟨⟨i + 1, by omega, by go_num, ?_, hW2⟩, by simp [intOf]; omega⟩
    exact hR.fill (by rw [HT.out]; exact h0) hwT _ e
  ·obtain rfl : i = n - m := by omega
   have hR2 : Row wr g T := by rw [← HT.out, fill_all] at hR; exact hR
   have hA2 := hR2.arr' HT.out (Nat.le_refl _) (by omega)
   clear hR
   go_wp2_with fail
   refine (trim _ _ _ _ _ hA2).mono ?_; rintro e w' ⟨rfl, rfl⟩
   go_wp2
   go_ret
   exact ⟨_, _, _, rfl, by rw [HS.out]; exact hA2.trim, hW⟩
theorem Gs {v n : Int} (h0 : 0 ≤ n) (h1 : n ≤ 1048576) : Vt v n = v / 2 ^ n.toNat := by unfold Vt Jm; rw [if_pos ⟨h0, h1⟩]
theorem Xx {v n : Int} (h : ¬ (0 ≤ n ∧ n ≤ 1048576)) : Vt v n = 0 := by unfold Vt Jm; rw [if_neg h]
theorem Bas {xs : List Int} (hw : Wf xs) {m r : Nat} (hr : r < 64) : val (shrL r (xs.drop m)) = val xs / 2 ^ (64 * m + r) := by
 rw [val_shrL (by omega) (hw.drop m), val_drop hw, B_pow_pw]
 have := pw_pos (64 * m)
 rw [Int.ediv_ediv_of_nonneg (by omega)]
 show _ / (pw _ * pw _) = _ / pw _
 rw [pw_add]
theorem Bar {xs : List Int} (hw : Wf xs) {q : Nat} (hq : xs.length ≤ q / 64) : val xs / 2 ^ q = 0 := by
 refine Int.ediv_eq_zero_of_lt (val_nonneg hw) (Int.lt_of_lt_of_le (val_lt hw) ?_)
 rw [B_pow_pw]
 show pw _ ≤ pw _
 obtain ⟨d, hd⟩ : ∃ d, q = 64 * xs.length + d := ⟨q - 64 * xs.length, by omega⟩
 rw [hd, pw_add]
 have h1 := pw_pos (64 * xs.length)
 have h2 := pw_pos d
 have : pw (64 * xs.length) * 1 ≤ pw (64 * xs.length) * pw d := Int.mul_le_mul_of_nonneg_left (by omega) (by omega)
 omega
theorem shr (A : Option Addr) (n c : Nat) (xs : List Int) (k : Int) (w : World) (h : Arr w A n c xs) (hn : n ≤ 17592186044416) (hk0 : -9223372036854775808 ≤ k) (hk1 : k ≤ 9223372036854775807) :
  Calls Tryz.prog 135 #[.slice A n c, .int .i64 k] w fun e w' => ∃ A' n' c', e = .returned (.slice A' n' c') ∧ Arr w' A' n' c' (wd (Vt (val xs) k)) ∧ Below w.heap.size w w' := by
 by_cases hk : 0 ≤ k ∧ k ≤ 1048576 ∧ k / 64 < n
 ·obtain ⟨q, rfl⟩ := Int.eq_ofNat_of_zero_le hk.1
  obtain ⟨m, r, hr, rfl⟩ : ∃ m r : Nat, r < 64 ∧ q = 64 * m + r := ⟨q / 64, q % 64, by omega, by omega⟩
  have := Bjg A n c xs m r w h hn hr (by omega) (by omega)
  rw [Bas h.wf hr] at this
  rw [Gs hk.1 hk.2.1]
  exact this
 ·have e : wd (Vt (val xs) k) = [] := by
   by_cases hk' : 0 ≤ k ∧ k ≤ 1048576
   ·obtain ⟨q, rfl⟩ := Int.eq_ofNat_of_zero_le hk'.1
    rw [Gs hk'.1 hk'.2, Int.toNat_natCast, Bar h.wf (by rw [h.len]; omega)]; exact wd_zero (Int.le_refl _)
   ·rw [Xx hk']; exact wd_zero (Int.le_refl _)
  rw [e]
  have hnil : ∀ w : World, Arr w none 0 0 [] := fun w => Arr.nothing w
  by_cases h0 : k < 0
  ·have h1 : decide (k < 0) = true := by simp [h0]
   go_enter Tryz.func135, Tryz.ntmps135
   go_wp2
   go_ret
   exact ⟨_, _, _, rfl, hnil _, Bb w⟩
  ·have h1 : decide (k < 0) = false := by simp [h0]
   by_cases h2 : 1048576 < k
   ·have h3 : decide (1048576 < k) = true := by simp [h2]
    go_enter Tryz.func135, Tryz.ntmps135
    go_wp2
    go_ret
    exact ⟨_, _, _, rfl, hnil _, Bb w⟩
   ·have h3 : decide (1048576 < k) = false := by simp; omega
    have h4 : decide ((n : Int) ≤ k / 64) = true := by simp; omega
    go_enter Tryz.func135, Tryz.ntmps135
    go_wp2
    go_ret
    exact ⟨_, _, _, rfl, hnil _, Bb w⟩
structure Uu (s xs : List Int) (k r i : Nat) : Prop where
 len : s.length = xs.length + k + 1
 v : val s = B ^ k * pw r * val (xs.take i)
 c : s.getD (i + k) 0 < pw r
 z : ∀ j, i + k < j → s.getD j 0 = 0
theorem Kv (n j : Nat) : (List.replicate n (0 : Int)).getD j 0 = 0 := by
 rw [List.getD_eq_getElem?_getD, List.getElem?_replicate]; split <;> rfl
theorem Bc7 (xs : List Int) (k r : Nat) : Uu (List.replicate (xs.length + k + 1) 0) xs k r 0 :=
 ⟨by simp, by rw [val_replicate]; simp [val], by rw [Kv]; exact pw_pos r, fun j _ => Kv _ j⟩
theorem Ub (xs : List Int) (i : Nat) (hi : i < xs.length) : val (xs.take (i + 1)) = val (xs.take i) + B ^ i * xs.getD i 0 := by
 rw [Dd (xs := xs) (k := i + 1) (by omega) (by omega), Nat.add_sub_cancel, val_append, List.length_take, Nat.min_eq_left (by omega), List.getD_eq_getElem?_getD]
 simp [val]
theorem Tk {x : Int} {r : Nat} (hr : r ≤ 64) : x * pw r = x * pw r % B + B * (x / pw (64 - r)) := by
 have hB := B_split hr
 have hp := pw_pos r
 have h1 : x * pw r / B = x / pw (64 - r) := by
  rw [hB, Int.mul_comm (pw r), Int.mul_ediv_mul_of_pos_left _ _ hp]
 have := Int.emod_add_mul_ediv (x * pw r) B
 rw [h1] at this; exact this.symm
theorem Beo {s xs : List Int} {k r i : Nat} (h : Uu s xs k r i) (hr : r < 64) (hi : i < xs.length) (hw : Wf xs) :
  Uu ((s.set (i + k) (s.getD (i + k) 0 + xs.getD i 0 * pw r % B)).set (i + k + 1) (xs.getD i 0 / pw (64 - r))) xs k r (i + 1) := by
 have hl := h.len
 have hx := hw.getD i
 have hv := h.v
 have e := Tk (x := xs.getD i 0) (Nat.le_of_lt hr)
 have hlt : xs.getD i 0 / pw (64 - r) < pw r := Int.ediv_lt_of_lt_mul (pw_pos _) (by rw [← B_split (Nat.le_of_lt hr), B_eq]; exact hx.2)
 have ht := Ub xs i hi
 have g1 : ∀ v, (s.set (i + k) v).getD (i + k + 1) 0 = 0 := fun v => by rw [getD_set_other _ _ _ _ (by omega)]; exact h.z _ (by omega)
 have z := h.z
 generalize xs.getD i 0 * pw r % B = a at *
 generalize xs.getD i 0 / pw (64 - r) = b at *
 refine ⟨by simp [hl], ?_, ?_, ?_⟩
 ·rw [val_set _ _ _ (by simp; omega), val_set _ _ _ (by omega), g1, hv, ht, Int.sub_zero]
  have e1 : s.getD (i + k) 0 + a - s.getD (i + k) 0 = a := by omega
  have e2 : B ^ (i + k + 1) = B ^ k * B ^ i * B := by rw [Int.pow_succ, Nat.add_comm, Int.pow_add]
  have e3 : B ^ (i + k) = B ^ k * B ^ i := by rw [Nat.add_comm, Int.pow_add]
  rw [e1, e2, e3]
  generalize B ^ k = p at *
  generalize B ^ i = q at *
  generalize xs.getD i 0 = x at *
  have e4 : p * pw r * (val (xs.take i) + q * x) = p * pw r * val (xs.take i) + p * q * (x * pw r) := by grind
  rw [e4, e]; grind
 ·rw [show i + 1 + k = i + k + 1 from by omega, getD_set_same _ _ _ (by simp; omega)]
  exact hlt
 ·intro j hj
  rw [getD_set_other _ _ _ _ (by omega), getD_set_other _ _ _ _ (by omega)]
  exact z j (by omega)
theorem Zd {x c : Int} {r : Nat} (hr : r < 64) (_hx0 : 0 ≤ x) (hc : 0 ≤ c) (hc' : c < pw r) : bits .or .u64 c (IntKind.u64.wrap (x * 2 ^ r)) = c + x * pw r % B := by
 have hp := pw_pos r
 have hq := pw_pos (64 - r)
 have hB := B_split (Nat.le_of_lt hr)
 have b : x * pw r % B = (x % pw (64 - r)) * pw r := by
  rw [hB, Int.mul_comm (pw r)]; exact mod_mul_left _ _ _ hq hp
 have c1 : 0 ≤ x % pw (64 - r) := Int.emod_nonneg _ (by omega)
 have c2 : x % pw (64 - r) < pw (64 - r) := Int.emod_lt_of_pos _ hq
 have d2 : (x % pw (64 - r)) * pw r < pw (64 - r) * pw r := Int.mul_lt_mul_of_pos_right c2 hp
 rw [Int.mul_comm (pw (64 - r)), ← hB, B_eq] at d2
 have e := Bdl (s := r) (by omega) hc hc' c1 d2
 rw [IntKind.wrap_u64]
 show bits .or .u64 c (x * pw r % B) = _
 rw [b]; exact e
theorem Baq {x c : Int} {r : Nat} (hr : r < 64) (hc : 0 ≤ c) (hc' : c < pw r) : 0 ≤ c + x * pw r % B ∧ c + x * pw r % B < 18446744073709551616 := by
 have hp := pw_pos r
 have hq := pw_pos (64 - r)
 have hB := B_split (Nat.le_of_lt hr)
 have b : x * pw r % B = (x % pw (64 - r)) * pw r := by
  rw [hB, Int.mul_comm (pw r)]; exact mod_mul_left _ _ _ hq hp
 have c1 : 0 ≤ x % pw (64 - r) := Int.emod_nonneg _ (by omega)
 have c2 : x % pw (64 - r) < pw (64 - r) := Int.emod_lt_of_pos _ hq
 have d1 : 0 ≤ (x % pw (64 - r)) * pw r := Int.mul_nonneg c1 (by omega)
 have d2 : (x % pw (64 - r) + 1) * pw r ≤ pw (64 - r) * pw r := Int.mul_le_mul_of_nonneg_right (by omega) (by omega)
 rw [Int.add_mul, Int.one_mul, Int.mul_comm (pw (64 - r)), ← hB, B_eq] at d2
 rw [b]; omega
def Ty (v n : Int) : Int := if 0 ≤ n ∧ n ≤ Jm then v * 2 ^ n.toNat else 0
theorem Bjf (A : Option Addr) (n c : Nat) (xs : List Int) (m r : Nat) (w : World) (h : Arr w A n c xs) (hn : n ≤ 100000000) (hr : r < 64) (hk : 64 * m + r ≤ 1048576) (h0 : 0 < val xs) :
  Calls Tryz.prog 100 #[.slice A n c, .int .i64 ((64 * m + r : Nat) : Int)] w fun e w' => ∃ A' n' c', e = .returned (.slice A' n' c') ∧ Arr w' A' n' c' (wd (val xs * pw (64 * m + r))) ∧ Below w.heap.size w w' := by
 have hx := h.trim
 have hlen := wd_len h.wf
 rw [h.len] at hlen
 have hpos : 0 < (wd (val xs)).length := List.length_pos_iff.2 (wd_ne_nil h0)
 have hvX : val (wd (val xs)) = val xs := val_wd _ (by omega)
 have T := trim A n c xs
 generalize hX : wd (val xs) = X at *
 have HX := Be hX
 have HV := Be hvX
 have HT := Be (fun w => T w)
 clear hX hvX T
 have h1 : decide (((64 * m + r : Nat) : Int) < 0) = false := by simp; omega
 have h2 : decide (1048576 < ((64 * m + r : Nat) : Int)) = false := by simp; omega
 have h3 : ((X.length : Int) == 0) = false := beq_eq_false_iff_ne.2 (by omega)
 have q1 : ((64 * m + r : Nat) : Int) / 64 = m := by omega
 have q2 : ((64 * m + r : Nat) : Int) % 64 = r := by omega
 generalize hK : ((64 * m + r : Nat) : Int) = K at *
 have hK0 : 0 ≤ K := by omega
 have hK1 : K ≤ 1048576 := by omega
 clear hK
 have hm : m ≤ 16384 := by omega
 go_enter Tryz.func100, Tryz.ntmps100
 go_wp2_with fail
 refine (HT.out w h).mono ?_; rintro e w' ⟨rfl, rfl⟩
 go_wp2_with (at_make; refine Jc rfl _ _ rfl _ _ (X.length + m + 1) rfl rfl ?m1 ?m2 ?m3 ?_)
 case m1 => omega
 case m2 => omega
 case m3 => omega
 intro g w1 hg hrow hb
 have hbw : Below w.heap.size w w1 := hb.mono (Nat.le_of_eq hg.symm)
 have HG := Be hg
 clear hb hg
 go_wp2
 go_loopw [36] (fun v wr => ∃ (i : Nat) (S : List Int), i ≤ X.length ∧ v = .int .i64 i ∧ Row wr g S ∧ Uu S X m r i ∧ Below w.heap.size w wr) (fun v _ => X.length - (intOf v).toNat)
 case atStart => exact ⟨0, _, Nat.zero_le _, rfl, hrow, Bc7 X m r, hbw⟩
 case round =>
  obtain ⟨i, S, hi, rfl, hR, hI, hW⟩ := hrel
  by_cases h0 : i < X.length
  ·have hA := hx.below hW
   obtain ⟨b, o, rfl, hlt, hc⟩ := hA.mem (by omega)
   have hgb : b < g := by
    obtain ⟨b', o', e, hlt', _⟩ := hx.mem (by omega)
    cases e
    have := HG.out; omega
   have k1 := hc i h0
   have x1 := hA.words i
   have hl := hI.len
   have r1 := hR.cell (i + m) (by omega)
   have r2 := hR.free (i + m)
   have r3 := hR.cell (i + m + 1) (by omega)
   have r4 := hR.free (i + m + 1)
   have c1 := hI.c
   have c0 := hR.wf.getD (i + m)
   have hst := Beo hI hr h0 hx.wf
   have hz := hI.z (i + m + 1) (by omega)
   have hov := Zd (x := X.getD i 0) hr x1.1 c0.1 c1
   have hsm := Baq (x := X.getD i 0) hr c0.1 c1
   have hR2 := hR.set (i + m) (by omega) _ hsm.1 hsm.2
   have hW2 := fun v => Bo hW g (i + m) (by have := HG.out; omega) v
   clear hc
   generalize hx0 : X.getD i 0 = x at *
   generalize S.getD (i + m) 0 = cc at *
   have HST := Be hst
   have HOV := Be hov
   clear hst hov hz hx0
   have hq := pw_pos (64 - r)
   have d0 : 0 ≤ x / pw (64 - r) := Int.ediv_nonneg x1.1 (by omega)
   have d1 : x / pw (64 - r) < 18446744073709551616 := Int.lt_of_le_of_lt (Int.ediv_le_self _ x1.1) x1.2
   have hR3 := hR2.set (i + m + 1) (by rw [List.length_set]; omega) _ d0 d1
   go_wp2
   refine ⟨⟨i + 1, _, by omega, by go_num, by rw [HOV.out]; exact hR3, HST.out, ?_⟩, by simp only [intOf]; omega⟩
   exact Bo (hW2 _) g _ (by have := HG.out; omega) _
  ·obtain rfl : i = X.length := by omega
   have hv := hI.v
   have hl := hI.len
   rw [List.take_length, HV.out] at hv
   have hA2 := hR.arr' hl (Nat.le_refl _) (by omega)
   have e : val S = val xs * pw (64 * m + r) := by rw [hv, pw_add, B_pow_pw]; grind
   have HE := Be e
   clear e hv
   go_wp2_with fail
   refine (trim _ _ _ _ _ hA2).mono ?_; rintro e w' ⟨rfl, rfl⟩
   go_wp2
   go_ret
   exact ⟨_, _, _, rfl, by rw [← HE.out]; exact hA2.trim, hW⟩
theorem Dm {v n : Int} (h0 : 0 ≤ n) (h1 : n ≤ 1048576) : Ty v n = v * 2 ^ n.toNat := by unfold Ty Jm; rw [if_pos ⟨h0, h1⟩]
theorem Xv {v n : Int} (h : ¬ (0 ≤ n ∧ n ≤ 1048576)) : Ty v n = 0 := by unfold Ty Jm; rw [if_neg h]
theorem shl (A : Option Addr) (n c : Nat) (xs : List Int) (k : Int) (w : World) (h : Arr w A n c xs) (hn : n ≤ 100000000) (hk0 : -9223372036854775808 ≤ k) (hk1 : k ≤ 9223372036854775807) :
  Calls Tryz.prog 100 #[.slice A n c, .int .i64 k] w fun e w' => ∃ A' n' c', e = .returned (.slice A' n' c') ∧ Arr w' A' n' c' (wd (Ty (val xs) k)) ∧ Below w.heap.size w w' := by
 have hv := h.val_nonneg
 by_cases hk : 0 ≤ k ∧ k ≤ 1048576 ∧ 0 < val xs
 ·obtain ⟨q, rfl⟩ := Int.eq_ofNat_of_zero_le hk.1
  obtain ⟨m, r, hr, rfl⟩ : ∃ m r : Nat, r < 64 ∧ q = 64 * m + r := ⟨q / 64, q % 64, by omega, by omega⟩
  have := Bjf A n c xs m r w h hn hr (by omega) hk.2.2
  rw [Dm hk.1 hk.2.1]
  exact this
 ·have e : wd (Ty (val xs) k) = [] := by
   by_cases hk' : 0 ≤ k ∧ k ≤ 1048576
   ·have : val xs = 0 := by omega
    rw [Dm hk'.1 hk'.2, this, Int.zero_mul]; exact wd_zero (Int.le_refl _)
   ·rw [Xv hk']; exact wd_zero (Int.le_refl _)
  rw [e]
  have T := Be (trim A n c xs w h)
  have hcap := h.trim.cap
  have hbig := h.big
  have hnil : ∀ w : World, Arr w none 0 0 [] := fun w => Arr.nothing w
  have hz : 0 ≤ k ∧ k ≤ 1048576 → ((wd (val xs)).length : Int) = 0 := fun hh => by
   have : val xs = 0 := by omega
   rw [this, wd_zero (Int.le_refl _)]; rfl
  generalize (wd (val xs)).length = l at *
  clear e
  by_cases h0 : k < 0
  ·have h1 : decide (k < 0) = true := by simp [h0]
   go_enter Tryz.func100, Tryz.ntmps100
   go_wp2_with fail
   refine T.out.mono ?_; rintro e w' ⟨rfl, rfl⟩
   go_wp2
   go_ret
   exact ⟨_, _, _, rfl, hnil _, Bb w⟩
  ·have h1 : decide (k < 0) = false := by simp [h0]
   by_cases h2 : 1048576 < k
   ·have h3 : decide (1048576 < k) = true := by simp [h2]
    go_enter Tryz.func100, Tryz.ntmps100
    go_wp2_with fail
    refine T.out.mono ?_; rintro e w' ⟨rfl, rfl⟩
    go_wp2
    go_ret
    exact ⟨_, _, _, rfl, hnil _, Bb w⟩
   ·have h3 : decide (1048576 < k) = false := by simp; omega
    have h4 : ((l : Int) == 0) = true := beq_iff_eq.2 (hz (by omega))
    clear hz
    go_enter Tryz.func100, Tryz.ntmps100
    go_wp2_with fail
    refine T.out.mono ?_; rintro e w' ⟨rfl, rfl⟩
    go_wp2
    go_ret
    exact ⟨_, _, _, rfl, hnil _, Bb w⟩
def bl (v : Int) : Int := Go.bitLen v.toNat
theorem Rp : bl 0 = 0 := rfl
theorem Gz {v : Int} (h : 0 < v) : ∃ a : Nat, bl v = (a : Int) + 1 ∧ pw a ≤ v ∧ v < pw (a + 1) := by
 obtain ⟨n, rfl⟩ := Int.eq_ofNat_of_zero_le (Int.le_of_lt h)
 obtain ⟨h1, h2⟩ := Go.bitLen_spec n
 have h3 := h2 (by omega)
 have hp : 0 < Go.bitLen n := by
  by_cases hz : Go.bitLen n = 0
  ·rw [hz] at h1; simp at h1; omega
  ·omega
 refine ⟨Go.bitLen n - 1, ?_, ?_, ?_⟩
 ·show ((Go.bitLen n : Nat) : Int) = _; omega
 ·have : pw (Go.bitLen n - 1) = ((2 ^ (Go.bitLen n - 1) : Nat) : Int) := by unfold pw; simp
  rw [this]; omega
 ·rw [Nat.sub_add_cancel hp]
  have : pw (Go.bitLen n) = ((2 ^ Go.bitLen n : Nat) : Int) := by unfold pw; simp
  rw [this]; omega
theorem Lg {v : Int} {a : Nat} (h0 : pw a ≤ v) (h1 : v < pw (a + 1)) : bl v = (a : Int) + 1 := by
 have hp := pw_pos a
 obtain ⟨b, hb, b0, b1⟩ := Gz (v := v) (by omega)
 have : a = b := by
  have c1 : a < b + 1 := pw_lt_iff.1 (by omega)
  have c2 : b < a + 1 := pw_lt_iff.1 (by omega)
  omega
 rw [hb, this]
theorem Df (v : Int) : 0 ≤ bl v := by unfold bl; omega
theorem Bgj {v : Int} (h : 0 < v) : 1 ≤ bl v := by
 obtain ⟨a, h1, _⟩ := Gz h; omega
theorem Gc {v : Int} {a : Nat} (h : 0 ≤ v) (hv : v < pw a) : bl v ≤ a := by
 by_cases h0 : v = 0
 ·subst h0; rw [Rp]; omega
 ·obtain ⟨b, h1, h2, _⟩ := Gz (v := v) (by omega)
  have : b < a := pw_lt_iff.1 (by omega)
  omega
theorem Sl {X : List Int} (hw : Wf X) (ht : Top X) (h0 : 0 < X.length) : bl (val X) = 64 * ((X.length : Int) - 1) + bl (X[X.length - 1]?.getD 0) := by
 have hv := val_at X (X.length - 1) (by omega)
 have hx := hw.getD (X.length - 1)
 rw [List.getD_eq_getElem?_getD] at hx
 rw [Nat.sub_add_cancel h0, List.drop_length, val_nil, Int.mul_zero, Int.add_zero] at hv
 have hne : X[X.length - 1]?.getD 0 ≠ 0 := by
  unfold Top at ht
  rw [List.getLast?_eq_getElem?] at ht
  intro e
  rw [List.getElem?_eq_getElem (by omega)] at ht e
  exact ht (by rw [show X[X.length - 1] = 0 from e])
 obtain ⟨b, e, b0, b1⟩ := Gz (v := X[X.length - 1]?.getD 0) (by omega)
 have l1 := val_lt (hw.take (X.length - 1))
 have l2 := val_nonneg (hw.take (X.length - 1))
 rw [List.length_take, Nat.min_eq_left (by omega), B_pow_pw] at l1
 rw [B_pow_pw] at hv
 rw [e]
 have hp := pw_pos (64 * (X.length - 1))
 generalize X[X.length - 1]?.getD 0 = x at *
 have m1 : pw (64 * (X.length - 1)) * pw b ≤ pw (64 * (X.length - 1)) * x := Int.mul_le_mul_of_nonneg_left b0 (by omega)
 have m2 : pw (64 * (X.length - 1)) * (x + 1) ≤ pw (64 * (X.length - 1)) * pw (b + 1) := Int.mul_le_mul_of_nonneg_left (by omega) (by omega)
 rw [Int.mul_add, Int.mul_one] at m2
 have hu := Lg (v := val X) (a := 64 * (X.length - 1) + b) (by rw [pw_add]; omega) (by rw [Nat.add_assoc, pw_add]; omega)
 rw [hu]; omega
theorem We : ∀ (f n : Nat), 0 < n → n < 2 ^ f → ∃ a, Lib.bitLenAux f n = a + 1 ∧ 2 ^ a ≤ n ∧ n < 2 ^ (a + 1)
 | 0, n, h0, h => by simp at h; omega
 | f + 1, n, h0, h => by
  unfold Lib.bitLenAux
  rw [if_neg (by omega)]
  by_cases h1 : n = 1
  ·subst h1
   refine ⟨0, ?_, by decide, by decide⟩
   cases f <;> simp [Lib.bitLenAux]
  ·obtain ⟨a, e, a0, a1⟩ := We f (n / 2) (by omega) (by rw [Nat.pow_succ] at h; omega)
   refine ⟨a + 1, by rw [e]; omega, by rw [Nat.pow_succ]; omega, by rw [Nat.pow_succ]; omega⟩
theorem Ki {x : Int} (h0 : 0 ≤ x) (h1 : x < 18446744073709551616) : bl x = Lib.bitLen x.toNat := by
 obtain ⟨n, rfl⟩ := Int.eq_ofNat_of_zero_le h0
 by_cases hz : n = 0
 ·subst hz; rfl
 ·obtain ⟨a, e, a0, a1⟩ := We 64 n (by omega) (by omega)
  have p1 : pw a = ((2 ^ a : Nat) : Int) := by unfold pw; simp
  have p2 : pw (a + 1) = ((2 ^ (a + 1) : Nat) : Int) := by unfold pw; simp
  rw [Lg (v := (n : Int)) (a := a) (by rw [p1]; omega) (by rw [p2]; omega)]
  show _ = ((Lib.bitLenAux 64 n : Nat) : Int)
  rw [e]; omega
theorem Ui (A : Option Addr) (n c : Nat) (xs : List Int) (w : World) (h : Arr w A n c xs) (hn : n ≤ 17592186044416) :
  Calls Tryz.prog 98 #[.slice A n c] w fun e w' => e = .returned (.int .i64 (bl (val xs))) ∧ w = w' := by
 have T := Be (trim A n c xs w h)
 have hx := h.trim
 have hv := h.val_nonneg
 have hlen := wd_len h.wf
 rw [h.len] at hlen
 by_cases h0 : val xs = 0
 ·have e : (wd (val xs)).length = 0 := by rw [h0, wd_zero (Int.le_refl _)]; rfl
  have HB := Be (show bl (val xs) = 0 by rw [h0]; rfl)
  clear h0 hx
  rw [e] at T hlen
  clear e
  go_enter Tryz.func98, Tryz.ntmps98
  go_wp2_with fail
  refine T.out.mono ?_; rintro e w' ⟨rfl, rfl⟩
  go_wp2_with fail
  go_ret
  exact ⟨by rw [HB.out]; rfl, rfl⟩
 ·have hpos : 0 < (wd (val xs)).length := List.length_pos_iff.2 (wd_ne_nil (by omega))
  have hb := Sl hx.wf (top_wd _ hv) hpos
  rw [val_wd _ hv] at hb
  have HB := Be hb
  clear hb
  generalize wd (val xs) = X at *
  have hl0 : ((X.length : Int) == 0) = false := beq_eq_false_iff_ne.2 (by omega)
  obtain ⟨b, o, rfl, hlt, hc⟩ := hx.mem hpos
  have k1 := hc (X.length - 1) (by omega)
  have x1 := hx.words (X.length - 1)
  rw [List.getD_eq_getElem?_getD] at x1
  have L := len64 (X[X.length - 1]?.getD 0) w x1.1 x1.2
  have HL := Be L
  have hbb := Ki x1.1 x1.2
  have hb64 := Gc (v := X[X.length - 1]?.getD 0) (a := 64) x1.1 (by rw [← B_pw, B_eq]; exact x1.2)
  have hb0 := Df (X[X.length - 1]?.getD 0)
  rw [← hbb] at HL
  have HBB := Be hbb
  clear hc L hbb
  go_enter Tryz.func98, Tryz.ntmps98
  go_wp2_with fail
  refine T.out.mono ?_; rintro e w' ⟨rfl, rfl⟩
  go_wp2_with fail
  refine HL.out.mono ?_; rintro e w' ⟨rfl, rfl⟩
  go_wp2_with fail
  go_ret
  refine ⟨?_, rfl⟩
  rw [HB.out]; rfl
theorem Bbe {x : Int} (h0 : 0 < x) (h1 : x < 18446744073709551616) : ∃ u : Int, x = pw (Lib.ctz 64 x.toNat) * u ∧ u % 2 = 1 ∧ 0 ≤ u ∧ Lib.ctz 64 x.toNat < 64 := by
 obtain ⟨n, rfl⟩ := Int.eq_ofNat_of_zero_le (Int.le_of_lt h0)
 obtain ⟨m, hm, hl⟩ := Lib.ctzFrom_spec 64 n (by omega) (by omega)
 have e : Lib.ctz 64 n = Lib.ctzFrom 64 n := by unfold Lib.ctz; rw [if_neg (by omega)]
 rw [Int.toNat_natCast, e]
 refine ⟨2 * (m : Int) + 1, ?_, by omega, by omega, hl⟩
 have h2 : (n : Int) = ((2 ^ Lib.ctzFrom 64 n * (2 * m + 1) : Nat) : Int) := congrArg _ hm
 conv => lhs; rw [h2]
 unfold pw; simp
theorem Vw {xs : List Int} {k : Nat} (hk : k < xs.length) (hv : val (xs.take k) = 0) (hz : xs[k]?.getD 0 = 0) : val (xs.take (k + 1)) = 0 := by
 rw [Dd (by omega) (by omega), Nat.add_sub_cancel, hz, val_snoc_zero]; exact hv
theorem odd (A : Option Addr) (n c : Nat) (xs : List Int) (w : World) (h : Arr w A n c xs) (hn : n ≤ 100000000) (hT : Tz w) :
  Calls Tryz.prog 102 #[.slice A n c] w fun e w' => ∃ A' n' c', e = .returned (.tuple #[.slice A' n' c', .int .i64 (tz (val xs))]) ∧ Arr w' A' n' c' (wd (oddI (val xs))) ∧ Below w.heap.size w w' := by
 have hl := h.len
 have hcap := h.cap
 have hbig := h.big
 have HL := Be hl
 clear hl
 go_enter Tryz.func102, Tryz.ntmps102
 go_wp2
 go_loop [4] (fun v => ∃ k : Nat, k ≤ n ∧ v = .int .i64 k ∧ Hid (val (xs.take k) = 0)) (fun v => n - (intOf v).toNat)
 case atStart => exact ⟨0, Nat.zero_le _, rfl, rfl⟩
 case round =>
  obtain ⟨k, hk, rfl, hv⟩ := hrel
  by_cases h0 : k < n
  ·obtain ⟨b, o, rfl, hlt, hc⟩ := h.mem (by omega)
   have hcell := hc k h0
   have hw := h.words k
   clear hc
   have h0b : ((k : Int) == (n : Int)) = false := by simp; omega
   go_wp2_with fail
   ·have hz : (xs[k]?.getD 0 == 0) = true := by assumption
    have hz' : xs[k]?.getD 0 = 0 := by simpa using hz
    exact ⟨⟨k + 1, by omega, by go_num, Vw (by rw [HL.out]; exact h0) hv.out hz'⟩, by simp [intOf]; omega⟩
   ·have hz : (xs[k]?.getD 0 == 0) = false := by assumption
    have hz' : xs[k]?.getD 0 ≠ 0 := by simpa using hz
    rw [List.getD_eq_getElem?_getD] at hw
    obtain ⟨u, hu, hu1, hu0, hz64⟩ := Bbe (x := xs[k]?.getD 0) (by omega) hw.2
    obtain ⟨e1, e2⟩ := odd_words h.wf (by rw [HL.out]; exact h0) hz64 hu hu1 hu0 hv.out
    refine (tz64 _ w (by omega) hw.2 hT).mono ?_; rintro e w' ⟨rfl, rfl⟩
    have hD := h.drop k (by omega)
    generalize Lib.ctz 64 (xs[k]?.getD 0).toNat = z at *
    have H1 := Be e1
    have H2 := Be e2
    clear e1 e2 hu hz hz'
    have hkc : k < c := by omega
    have hkc' : ¬ k = c := by omega
    have hnk : n - k ≤ 17592186044416 := by omega
    go_wp2_with fail
    refine (shr _ _ _ _ z w hD hnk (by omega) (by omega)).mono ?_
    rintro e w2 ⟨A2, n2, c2, rfl, hA2, hb2⟩
    rw [Gs (by omega) (by omega), Int.toNat_natCast] at hA2
    go_wp2
    go_ret2
    refine ⟨A2, n2, c2, ?_, ?_, hb2⟩
    ·rw [H1.out]; simp
    ·rw [H2.out]; exact hA2
  ·obtain rfl : k = n := by omega
   have hv' : val xs = 0 := by have := hv.out; rw [← HL.out, List.take_length] at this; exact this
   have HV := Be hv'
   clear hv' hv
   go_wp2
   go_ret2
   refine ⟨none, 0, 0, ?_, ?_, Bb w⟩
   ·rw [HV.out, tz_zero]; rfl
   ·rw [HV.out, oddI_zero, wd_zero (Int.le_refl _)]; exact Arr.nothing w
def Bq (neg : Bool) (xs : List Int) (e : Int) : Bool :=
 if xs.length = 0 then decide (e = 0) && !neg
 else decide (xs.getD (xs.length - 1) 0 ≠ 0) && decide (xs.getD 0 0 % 2 = 1) && decide (xs.length ≤ 256) && decide (-262144 ≤ e) && decide (e ≤ 262144)
theorem plain (neg : Bool) (A : Option Addr) (n c : Nat) (xs : List Int) (e : Int) (w : World) (h : Arr w A n c xs) :
  Calls Tryz.prog 103 #[.agg #[.bool neg, .slice A n c, .int .i64 e]] w fun r w' => r = .returned (.bool (Bq neg xs e)) ∧ Below w.heap.size w w' := by
 have hl := h.len
 have hcap := h.cap
 have hbig := h.big
 have HL := Be hl
 clear hl
 by_cases h0 : n = 0
 ·subst h0
  have hp : Bq neg xs e = (decide (e = 0) && !neg) := by unfold Bq; rw [if_pos HL.out]
  have HP := Be hp
  clear hp
  go_enter Tryz.func103, Tryz.ntmps103
  go_wp2
  all_goals go_ret
  ·have he : e = 0 := by assumption
   exact ⟨by rw [HP.out]; subst he; simp, Ba (Bb w) _⟩
  ·have he : ¬ e = 0 := by assumption
   exact ⟨by rw [HP.out]; simp [he], Ba (Bb w) _⟩
 ·have hp : Bq neg xs e = (decide (xs[n - 1]?.getD 0 ≠ 0) && decide (xs[0]?.getD 0 % 2 = 1) && decide (n ≤ 256) && decide (-262144 ≤ e) && decide (e ≤ 262144)) := by
   unfold Bq; rw [if_neg (by rw [HL.out]; exact h0), HL.out, List.getD_eq_getElem?_getD, List.getD_eq_getElem?_getD]
  have HP := Be hp
  clear hp
  obtain ⟨b, o, rfl, hlt, hc⟩ := h.mem (by omega)
  have k1 := hc (n - 1) (by omega)
  have k2 := hc 0 (by omega)
  rw [Nat.add_zero] at k2
  have l1 : 0 < n := by omega
  clear hc
  go_enter Tryz.func103, Tryz.ntmps103
  have a1 := h.words 0
  rw [List.getD_eq_getElem?_getD] at a1
  have a2 := Bf1 a1.1 a1.2
  have A2 := Be a2
  clear a1 a2
  go_wp2
  all_goals go_ret
  all_goals refine ⟨?_, Ba (Bb w) _⟩
  all_goals rw [HP.out, ← A2.out]
  all_goals refine Ht ?_
  ·have z : xs[n - 1]?.getD 0 = 0 := by assumption
   simp [z]
  ·have z : ¬ xs[n - 1]?.getD 0 = 0 := by assumption
   have z1 : bits BinOp.and IntKind.u64 (xs[0]?.getD 0) 1 = 1 := by assumption
   have z2 : (n : Int) ≤ 256 := by assumption
   have z3 : -262144 ≤ e := by assumption
   have z2' : n ≤ 256 := by omega
   simp [z, z1, z2', z3]
  ·have z1 : e < -262144 := by assumption
   simp; omega
  ·have z1 : 256 < (n : Int) := by assumption
   simp; omega
  ·have z1 : ¬ bits BinOp.and IntKind.u64 (xs[0]?.getD 0) 1 = 1 := by assumption
   simp [z1]
structure Dy where
 neg : Bool
 m : Int
 e : Int
def Dy.zero : Dy := ⟨false, 0, 0⟩
def mkD (neg : Bool) (v e : Int) : Option Dy :=
 if v = 0 then some Dy.zero
 else if 262144 < e ∨ e < -262144 - (tz v : Int) then none
 else if (wd (oddI v)).length ≤ 256 ∧ e + (tz v : Int) ≤ 262144 then some ⟨neg, oddI v, e + tz v⟩ else none
def Ci (o : Option Dy) : Dy := o.getD Dy.zero
def He (o : Option Dy) (w : World) (r : Ending) (w' : World) : Prop :=
 ∃ A n c, r = .returned (.tuple #[.agg #[.bool (Ci o).neg, .slice A n c, .int .i64 (Ci o).e], .bool o.isSome]) ∧ Arr w' A n c (wd (Ci o).m) ∧ Below w.heap.size w w'
theorem Gq {v : Int} (hv : 0 < v) (neg : Bool) (e : Int) : Bq neg (wd v) e = (decide (v % 2 = 1) && decide ((wd v).length ≤ 256) && decide (-262144 ≤ e) && decide (e ≤ 262144)) := by
 have hne := wd_ne_nil hv
 have hl : (wd v).length ≠ 0 := by simpa using hne
 have ht := top_wd v (by omega)
 have h1 : (wd v).getD ((wd v).length - 1) 0 ≠ 0 := by
  unfold Top at ht
  rw [List.getLast?_eq_getElem?, List.getElem?_eq_getElem (by omega)] at ht
  rw [List.getD_eq_getElem?_getD, List.getElem?_eq_getElem (by omega)]
  simpa using ht
 have h2 : (wd v).getD 0 0 % 2 = v % 2 := by
  rw [wd_pos hv]
  simp only [List.getD_cons_zero, B_eq]
  omega
 unfold Bq
 rw [if_neg hl, h2]
 simp only [ne_eq, h1, not_false_eq_true, decide_true, Bool.true_and]
theorem Dj (w : World) : Arr w none 0 0 (wd (Ci none).m) := by
 have : wd (Ci none).m = [] := wd_zero (Int.le_refl _)
 rw [this]; exact Arr.nothing _
theorem Hv (neg : Bool) (A : Option Addr) (n c : Nat) (xs : List Int) (e : Int) (w : World) (h : Arr w A n c xs) (hn : n ≤ 100000000) (he0 : -9223372036854775808 ≤ e) (he1 : e ≤ 9223372036854775807) (hT : Tz w) :
  Calls Tryz.prog 66 #[.bool neg, .slice A n c, .int .i64 e] w (He (mkD neg (val xs) e) w) := by
 have b0 : Below w.heap.size w (w.alloc (.cells #[.bool false, .slice none 0 0, .int .i64 0] 26)) := Ba (Bb w) _
 by_cases hv : val xs = 0
 ·have em : mkD neg (val xs) e = some Dy.zero := by unfold mkD; rw [if_pos hv]
  rw [em]
  go_enter Tryz.func66, Tryz.ntmps66
  go_wp2_with fail
  refine (odd _ _ _ _ _ (h.below b0) hn (hT.below b0)).mono ?_
  rintro r w2 ⟨A2, n2, c2, rfl, hA2, hb2⟩
  have bw2 := Bc b0 hb2
  obtain ⟨k0, k1, k2, f0, f1, f2⟩ := ((Bg w _ _).later hb2).cell3
  rw [hv, oddI_zero, wd_zero (Int.le_refl _)] at hA2
  obtain rfl : n2 = 0 := hA2.len.symm
  go_wp2_with fail
  refine bodyPost_ret (v := .tuple #[.agg #[.bool false, .slice none 0 0, .int .i64 0], .bool true]) (by simp [results, Tryz.results66, go_sem, k0, k1, k2]) rfl ⟨none, 0, 0, rfl, ?_, (by repeat (first | with_reducible assumption | exact Bb _ | refine Bo ?_ _ _ (by first | exact Nat.le_refl _ | omega | (simp; done) | (simp; omega)) _ | refine Ba ?_ _ | apply Below.drew | apply Bd))⟩
  have : wd (Ci (some Dy.zero)).m = [] := wd_zero (Int.le_refl _)
  rw [this]; exact Arr.nothing _
 ·have hp : 0 < val xs := by have := h.val_nonneg; omega
  have hz := tz_lt h.wf hp
  have hl := h.len
  have hou := oddI_pos hp
  have hodd := (odd_split hp).2.1
  have hpl := Gq hou
  generalize hM : mkD neg (val xs) e = M
  have hM2 : M = if 262144 < e ∨ e < -262144 - (tz (val xs) : Int) then none else if (wd (oddI (val xs))).length ≤ 256 ∧ e + (tz (val xs) : Int) ≤ 262144 then some ⟨neg, oddI (val xs), e + tz (val xs)⟩ else none := by
   rw [← hM]; unfold mkD; rw [if_neg hv]
  clear hM
  have hodd' := odd A n c xs (w.alloc (.cells #[.bool false, .slice none 0 0, .int .i64 0] 26)) (h.below b0) hn (hT.below b0)
  generalize tz (val xs) = z at *
  generalize oddI (val xs) = u at *
  have hz' : z < 6400000000 := by omega
  have HL := Be hl
  have HP := Be hpl
  have HO := Be hodd
  have HC := Be hodd'
  clear hl hz hodd hpl hodd' hv
  by_cases t1 : 262144 < e
  ·have d1 : decide (262144 < e) = true := by simp [t1]
   rw [if_pos (.inl t1)] at hM2
   subst hM2
   go_enter Tryz.func66, Tryz.ntmps66
   go_wp2_with fail
   refine HC.out.mono ?_
   rintro r w2 ⟨A2, n2, c2, rfl, hA2, hb2⟩
   have bw2 := Bc b0 hb2
   obtain ⟨k0, k1, k2, f0, f1, f2⟩ := ((Bg w _ _).later hb2).cell3
   have hn2 : 0 < n2 := by rw [← hA2.len]; exact List.length_pos_iff.2 (wd_ne_nil hou)
   have hn3 : ((n2 : Int) == 0) = false := by simp; omega
   go_wp2_with fail
   refine bodyPost_ret (v := .tuple #[.agg #[.bool false, .slice none 0 0, .int .i64 0], .bool false]) (by simp [results, Tryz.results66, go_sem, k0, k1, k2]) rfl ⟨none, 0, 0, rfl, Dj _, (by repeat (first | with_reducible assumption | exact Bb _ | refine Bo ?_ _ _ (by first | exact Nat.le_refl _ | omega | (simp; done) | (simp; omega)) _ | refine Ba ?_ _ | apply Below.drew | apply Bd))⟩
  ·have d1 : decide (262144 < e) = false := by simp [t1]
   by_cases t2 : e < -262144 - (z : Int)
   ·have d2 : decide (e < -262144 - (z : Int)) = true := by simp [t2]
    rw [if_pos (.inr t2)] at hM2
    subst hM2
    go_enter Tryz.func66, Tryz.ntmps66
    go_wp2_with fail
    refine HC.out.mono ?_
    rintro r w2 ⟨A2, n2, c2, rfl, hA2, hb2⟩
    have bw2 := Bc b0 hb2
    obtain ⟨k0, k1, k2, f0, f1, f2⟩ := ((Bg w _ _).later hb2).cell3
    have hn2 : 0 < n2 := by rw [← hA2.len]; exact List.length_pos_iff.2 (wd_ne_nil hou)
    have hn3 : ((n2 : Int) == 0) = false := by simp; omega
    go_wp2_with fail
    refine bodyPost_ret (v := .tuple #[.agg #[.bool false, .slice none 0 0, .int .i64 0], .bool false]) (by simp [results, Tryz.results66, go_sem, k0, k1, k2]) rfl ⟨none, 0, 0, rfl, Dj _, (by repeat (first | with_reducible assumption | exact Bb _ | refine Bo ?_ _ _ (by first | exact Nat.le_refl _ | omega | (simp; done) | (simp; omega)) _ | refine Ba ?_ _ | apply Below.drew | apply Bd))⟩
   ·have d2 : decide (e < -262144 - (z : Int)) = false := by simp [t2]
    rw [if_neg (by omega)] at hM2
    have hM3 := Be hM2
    clear hM2
    go_enter Tryz.func66, Tryz.ntmps66
    go_wp2_with fail
    refine HC.out.mono ?_
    rintro r w2 ⟨A2, n2, c2, rfl, hA2, hb2⟩
    have bw2 := Bc b0 hb2
    have bx2 := (Bg w _ _).later hb2
    have hn2 : 0 < n2 := by rw [← hA2.len]; exact List.length_pos_iff.2 (wd_ne_nil hou)
    have hn3 : ((n2 : Int) == 0) = false := by simp; omega
    go_wp2_with fail
    have bw3 : Below w2.heap.size w2 (w2.alloc (.cells #[.bool neg, .slice A2 n2 c2, .int .i64 (e + (z : Int))] 26)) := Ba (Bb w2) _
    have bd := Bg w2 #[.bool neg, .slice A2 n2 c2, .int .i64 (e + (z : Int))] 26
    refine (plain neg A2 n2 c2 _ (e + z) _ (hA2.below bw3)).mono ?_
    rintro r w4 ⟨rfl, hb4⟩
    rw [HP.out]
    have bg4 := ((bx2.below bw3 bx2.lt).later hb4)
    have bd4 := bd.later hb4
    have bw4 := Bc (Bc bw2 bw3) hb4
    have hA4 := (hA2.below bw3).below hb4
    obtain ⟨k0, k1, k2, f0, f1, f2⟩ := bg4.cell3
    obtain ⟨j0, j1, j2, _, _, _⟩ := bd4.cell3
    have hne : w.heap.size ≠ w2.heap.size := by have := bx2.lt; omega
    by_cases t3 : (wd u).length ≤ 256 ∧ e + (z : Int) ≤ 262144
    ·have d3 : (decide (u % 2 = 1) && decide ((wd u).length ≤ 256) && decide (-262144 ≤ e + (z : Int)) && decide (e + (z : Int) ≤ 262144)) = true := by
      have := HO.out
      simp [this, t3.1, t3.2]; omega
     rw [d3]
     have em := hM3.out
     rw [if_pos t3] at em
     subst em
     go_wp2_with fail
     refine bodyPost_ret (v := .tuple #[.agg #[.bool neg, .slice A2 n2 c2, .int .i64 (e + (z : Int))], .bool true]) (by simp [results, Tryz.results66, go_sem, k0, k1, k2]) rfl ⟨A2, n2, c2, rfl, ?_, (by repeat (first | with_reducible assumption | exact Bb _ | refine Bo ?_ _ _ (by first | exact Nat.le_refl _ | omega | (simp; done) | (simp; omega)) _ | refine Ba ?_ _ | apply Below.drew | apply Bd))⟩
     exact hA4.set3 bg4 _ _ _ (by simp) (by simp)
    ·have d3 : (decide (u % 2 = 1) && decide ((wd u).length ≤ 256) && decide (-262144 ≤ e + (z : Int)) && decide (e + (z : Int) ≤ 262144)) = false := by
      simp; omega
     rw [d3]
     have em := hM3.out
     rw [if_neg t3] at em
     subst em
     go_wp2_with fail
     refine bodyPost_ret (v := .tuple #[.agg #[.bool false, .slice none 0 0, .int .i64 0], .bool false]) (by simp [results, Tryz.results66, go_sem, k0, k1, k2]) rfl ⟨none, 0, 0, rfl, Dj _, (by repeat (first | with_reducible assumption | exact Bb _ | refine Bo ?_ _ _ (by first | exact Nat.le_refl _ | omega | (simp; done) | (simp; omega)) _ | refine Ba ?_ _ | apply Below.drew | apply Bd))⟩
def lev (m e L : Int) : Int := m * pw (e - L).toNat
def sgn (neg : Bool) (v : Int) : Int := if neg then -v else v
def Hf (a b : Dy) : Int := Cs (sgn a.neg (lev a.m a.e (min a.e b.e))) (sgn b.neg (lev b.m b.e (min a.e b.e)))
theorem Wi (x y : Int) : Cs (-x) (-y) = -Cs x y := by unfold Cs; repeat' split <;> omega
theorem Bbc (x y : Int) : Cs y x = -Cs x y := by unfold Cs; repeat' split <;> omega
theorem Hn {p : Int} (hp : 0 < p) (x y : Int) : Cs (x * p) (y * p) = Cs x y := by
 have h1 : x * p < y * p ↔ x < y := ⟨fun h => Int.lt_of_mul_lt_mul_right h (Int.le_of_lt hp), fun h => Int.mul_lt_mul_of_pos_right h hp⟩
 have h2 : x * p = y * p ↔ x = y := ⟨fun h => Int.eq_of_mul_eq_mul_right (by omega) h, fun h => by rw [h]⟩
 unfold Cs
 simp only [h1, h2]
theorem Sw {m e L L' : Int} (h : L' ≤ L) (h' : L ≤ e) : lev m e L' = lev m e L * pw (L - L').toNat := by
 unfold lev
 rw [Int.mul_assoc, ← pw_add]
 congr 2
 omega
theorem Mw (m e : Int) : lev m e e = m := by unfold lev; rw [Int.sub_self]; show m * 2 ^ 0 = m; omega
theorem Jl (e L : Int) : lev 0 e L = 0 := by unfold lev; rw [Int.zero_mul]
theorem Vd {m : Int} (h : 0 < m) (e L : Int) : 0 < lev m e L := Int.mul_pos h (pw_pos _)
theorem Dz {m : Int} (h : 0 ≤ m) (e L : Int) : 0 ≤ lev m e L := Int.mul_nonneg h (Int.le_of_lt (pw_pos _))
theorem Se (n : Bool) (x p : Int) : sgn n (x * p) = sgn n x * p := by cases n <;> simp [sgn, Int.neg_mul]
theorem Zy {a b : Dy} {L : Int} (ha : L ≤ a.e) (hb : L ≤ b.e) : Hf a b = Cs (sgn a.neg (lev a.m a.e L)) (sgn b.neg (lev b.m b.e L)) := by
 unfold Hf
 rw [Sw (m := a.m) (L := min a.e b.e) (L' := L) (by omega) (by omega), Sw (m := b.m) (L := min a.e b.e) (L' := L) (by omega) (by omega), Se, Se, Hn (pw_pos _)]
structure PD (d : Dy) : Prop where
 nn : 0 ≤ d.m
 z : d.m = 0 → d.e = 0 ∧ d.neg = false
 lo : -262144 ≤ d.e
 hi : d.e ≤ 262144
theorem Ue {a b : Dy} (ha : PD a) (hb : PD b) (h : a.neg ≠ b.neg) : Hf a b = if a.neg then -1 else 1 := by
 obtain ⟨p, m, e⟩ := a
 obtain ⟨q, v, f⟩ := b
 simp only at h
 have m0 := ha.nn; have v0 := hb.nn; have mz := ha.z; have vz := hb.z
 simp only at m0 v0 mz vz
 unfold Hf
 simp only
 have l1 := Dz m0 e (min e f)
 have l2 := Dz v0 f (min e f)
 cases p
 ·obtain rfl : q = true := by cases q <;> simp_all
  have : 0 < v := by
   by_cases hv : v = 0
   ·have := (vz hv).2; cases this
   ·omega
  have := Vd this f (min e f)
  exact Jy (show -lev v f (min e f) < lev m e (min e f) by omega)
 ·obtain rfl : q = false := by cases q <;> simp_all
  have : 0 < m := by
   by_cases hv : m = 0
   ·have := (mz hv).2; cases this
   ·omega
  have := Vd this e (min e f)
  exact Gk (show -lev m e (min e f) < lev v f (min e f) by omega)
theorem Ke (n : Bool) (x y : Int) : Cs (sgn n x) (sgn n y) = (if n then -1 else 1) * Cs x y := by
 cases n
 ·simp [sgn]
 ·simp [sgn, Wi]
theorem Ba5 {m v e f L : Int} (hm : 0 < m) (hv : 0 < v) (h : bl m + e < bl v + f) (h1 : L ≤ e) (h2 : L ≤ f) : lev m e L < lev v f L := by
 obtain ⟨a, ea, a0, a1⟩ := Gz hm
 obtain ⟨b, eb, b0, b1⟩ := Gz hv
 unfold lev
 have k1 : m * pw (e - L).toNat < pw (a + 1) * pw (e - L).toNat := Int.mul_lt_mul_of_pos_right a1 (pw_pos _)
 have k2 : pw b * pw (f - L).toNat ≤ v * pw (f - L).toNat := Int.mul_le_mul_of_nonneg_right b0 (Int.le_of_lt (pw_pos _))
 rw [← pw_add] at k1 k2
 have k3 : pw (a + 1 + (e - L).toNat) ≤ pw (b + (f - L).toNat) := pw_le (by omega)
 omega
theorem Bgp {a b : Dy} (h : a.neg = b.neg) (ha : 0 < a.m) (hb : 0 < b.m) (ht : bl a.m + a.e < bl b.m + b.e) : Hf a b = (if a.neg then 1 else -1) := by
 unfold Hf
 rw [← h, Ke, Gk (Ba5 ha hb ht (by omega) (by omega))]
 cases a.neg <;> rfl
theorem Bgn {a b : Dy} (h : a.neg = b.neg) (ha : 0 < a.m) (hb : 0 < b.m) (ht : bl b.m + b.e < bl a.m + a.e) : Hf a b = (if a.neg then -1 else 1) := by
 unfold Hf
 rw [← h, Ke, Jy (Ba5 hb ha ht (by omega) (by omega))]
 cases a.neg <;> rfl
theorem Lt {a b : Dy} (h : a.neg = b.neg) (ha : PD a) (hm : a.m = 0) : Hf a b = (if a.neg then -1 else 1) * Cs 0 b.m := by
 obtain ⟨e0, n0⟩ := ha.z hm
 unfold Hf
 rw [← h, Ke, hm, Jl]
 congr 1
 rw [← Hn (pw_pos (b.e - min a.e b.e).toNat) 0 b.m, Int.zero_mul]
 rfl
theorem Ko {a b : Dy} (h : a.neg = b.neg) (hm : b.m = 0) : Hf a b = (if a.neg then -1 else 1) * Cs a.m 0 := by
 unfold Hf
 rw [← h, Ke, hm, Jl]
 congr 1
 rw [← Hn (pw_pos (a.e - min a.e b.e).toNat) a.m 0, Int.zero_mul]
 rfl
theorem Bgm {a b : Dy} (h : a.neg = b.neg) (he : b.e ≤ a.e) : Hf a b = (if a.neg then -1 else 1) * Cs (a.m * 2 ^ (a.e - b.e).toNat) b.m := by
 rw [Zy (L := b.e) he (Int.le_refl _), ← h, Ke, Mw]
 rfl
theorem Bgo {a b : Dy} (h : a.neg = b.neg) (he : a.e ≤ b.e) : Hf a b = (if a.neg then -1 else 1) * Cs a.m (b.m * 2 ^ (b.e - a.e).toNat) := by
 rw [Zy (L := a.e) (Int.le_refl _) he, ← h, Ke, Mw]
 rfl
theorem Bm {neg : Bool} {xs : List Int} {e : Int} (hw : Wf xs) (h : Bq neg xs e = true) : PD ⟨neg, val xs, e⟩ ∧ xs.length ≤ 256 ∧ wd (val xs) = xs ∧ (0 < xs.length → 0 < val xs ∧ val xs % 2 = 1) := by
 unfold Bq at h
 by_cases h0 : xs.length = 0
 ·rw [if_pos h0] at h
  obtain rfl : xs = [] := List.length_eq_zero_iff.1 h0
  simp at h
  obtain ⟨rfl, rfl⟩ := h
  exact ⟨⟨by simp [val], fun _ => ⟨rfl, rfl⟩, by simp, by simp⟩, by simp, by rw [val_nil, wd_zero (Int.le_refl _)], fun h => absurd h (by simp)⟩
 ·rw [if_neg h0] at h
  simp only [Bool.and_eq_true, decide_eq_true_eq] at h
  obtain ⟨⟨⟨⟨h1, h2⟩, h3⟩, h4⟩, h5⟩ := h
  have ht : Top xs := by
   unfold Top
   rw [List.getLast?_eq_getElem?, List.getElem?_eq_getElem (by omega)]
   rw [List.getD_eq_getElem?_getD, List.getElem?_eq_getElem (by omega)] at h1
   simpa using h1
  have hp := val_pos hw ht (by intro e; rw [e] at h0; exact h0 rfl)
  have ho : val xs % 2 = 1 := by
   obtain ⟨x, xs', rfl⟩ := List.exists_cons_of_ne_nil (l := xs) (by intro e; rw [e] at h0; exact h0 rfl)
   simp only [List.getD_cons_zero] at h2
   rw [val_cons, B_eq]; omega
  exact ⟨⟨by simp only; omega, fun hh => absurd hh (by simp only; omega), h4, h5⟩, h3, wd_val hw ht, fun _ => ⟨hp, ho⟩⟩
theorem Bbj (neg : Bool) (A : Option Addr) (n c : Nat) (xs : List Int) (e : Int) (w : World) (h : Arr w A n c xs) (hn : n ≤ 1000000) (he0 : -1000000 ≤ e) (he1 : e ≤ 1000000) :
  Calls Tryz.prog 118 #[.agg #[.bool neg, .slice A n c, .int .i64 e]] w fun r w' => r = .returned (.int .i64 (bl (val xs) + e)) ∧ Below w.heap.size w w' := by
 have bx := Bg w #[.bool neg, .slice A n c, .int .i64 e] 26
 obtain ⟨k0, k1, k2, f0, f1, f2⟩ := bx.cell3
 have b0 := Ba (Bb w) (.cells #[.bool neg, .slice A n c, .int .i64 e] 26)
 have NB := Be (fun w' (hb : Below w.heap.size w w') => Ui A n c xs w' (h.below hb) (by omega))
 have hb0 := Df (val xs)
 have hb1 := Gc (v := val xs) (a := 64 * n) h.val_nonneg (by rw [← B_pow_pw, ← h.len]; exact val_lt h.wf)
 have hq : ∀ q : Int, 0 ≤ q → q ≤ 64000000 → IntKind.i64.wrap (q + e) = q + e := fun q h0 h1 => by rw [IntKind.wrap_i64]; omega
 have hqq := hq (bl (val xs)) hb0 (by omega)
 generalize bl (val xs) = q at *
 clear hq
 go_enter Tryz.func118, Tryz.ntmps118
 go_wp2_with fail
 go_region_with (first | (go_at_call 98; refine (NB.out _ ((by repeat (first | with_reducible assumption | exact Bb _ | refine Bo ?_ _ _ (by first | exact Nat.le_refl _ | omega | (simp; done) | (simp; omega)) _ | refine Ba ?_ _ | apply Below.drew | apply Bd)))).mono ?_; rintro r w' ⟨rfl, rfl⟩))
 all_goals
  go_wp2
  go_ret
  exact ⟨rfl, (by repeat (first | with_reducible assumption | exact Bb _ | refine Bo ?_ _ _ (by first | exact Nat.le_refl _ | omega | (simp; done) | (simp; omega)) _ | refine Ba ?_ _ | apply Below.drew | apply Bd))⟩
structure DV where
 neg : Bool
 A : Option Addr
 n : Nat
 c : Nat
 xs : List Int
 e : Int
def DV.ok (d : DV) (w : World) : Prop := Arr w d.A d.n d.c d.xs
def DV.cells (d : DV) : Array Value := #[.bool d.neg, .slice d.A d.n d.c, .int .i64 d.e]
def DV.plain (d : DV) : Bool := Bq d.neg d.xs d.e
structure DVs (w : World) (g : Nat) (l : List DV) : Prop where
 lt : g < w.heap.size
 ok : ∀ j (h : j < l.length), (l[j]).ok w
 c0 : ∀ j (h : j < l.length), w.cell? ⟨g, j * 3, none⟩ = some (.bool (l[j]).neg)
 c1 : ∀ j (h : j < l.length), w.cell? ⟨g, j * 3 + 1, none⟩ = some (.slice (l[j]).A (l[j]).n (l[j]).c)
 c2 : ∀ j (h : j < l.length), w.cell? ⟨g, j * 3 + 2, none⟩ = some (.int .i64 (l[j]).e)
theorem DVs.later {w w' : World} {g : Nat} {l : List DV} (h : DVs w g l) (hb : Below w.heap.size w w') : DVs w' g l :=
 ⟨Nat.lt_of_lt_of_le h.lt hb.size, fun j hj => Arr.below (h.ok j hj) hb, fun j hj => (hb.cell (p := ⟨g, _, none⟩) h.lt).trans (h.c0 j hj), fun j hj => (hb.cell (p := ⟨g, _, none⟩) h.lt).trans (h.c1 j hj), fun j hj => (hb.cell (p := ⟨g, _, none⟩) h.lt).trans (h.c2 j hj)⟩
structure DVA (w : World) (A : Option Addr) (l : List DV) : Prop where
 ok : ∀ j (h : j < l.length), (l[j]).ok w
 mem : 0 < l.length → ∃ g o, A = some ⟨g, o, none⟩ ∧ g < w.heap.size ∧ (∀ j (h : j < l.length), w.cell? ⟨g, o + j * 3, none⟩ = some (.bool (l[j]).neg)) ∧ (∀ j (h : j < l.length), w.cell? ⟨g, o + j * 3 + 1, none⟩ = some (.slice (l[j]).A (l[j]).n (l[j]).c)) ∧
  (∀ j (h : j < l.length), w.cell? ⟨g, o + j * 3 + 2, none⟩ = some (.int .i64 (l[j]).e))
theorem DVA.later {w w' : World} {A : Option Addr} {l : List DV} (h : DVA w A l) (hb : Below w.heap.size w w') : DVA w' A l := by
 refine ⟨fun j hj => Arr.below (h.ok j hj) hb, fun h0 => ?_⟩
 obtain ⟨g, o, rfl, hg, c0, c1, c2⟩ := h.mem h0
 exact ⟨g, o, rfl, Nat.lt_of_lt_of_le hg hb.size, fun j hj => (hb.cell (p := ⟨g, _, none⟩) hg).trans (c0 j hj), fun j hj => (hb.cell (p := ⟨g, _, none⟩) hg).trans (c1 j hj), fun j hj => (hb.cell (p := ⟨g, _, none⟩) hg).trans (c2 j hj)⟩
theorem DVs.any {w : World} {g : Nat} {l : List DV} (h : DVs w g l) : DVA w (some ⟨g, 0, none⟩) l :=
 ⟨h.ok, fun _ => ⟨g, 0, rfl, h.lt, fun j hj => by rw [Nat.zero_add]; exact h.c0 j hj, fun j hj => by rw [Nat.zero_add]; exact h.c1 j hj, fun j hj => by rw [Nat.zero_add]; exact h.c2 j hj⟩⟩
theorem Ba1 (SA : Option Addr) (m cap : Nat) (l : List DV) (hm : l.length = m) (w : World) (h : DVA w SA l) (hl : m ≤ 1000000) :
  Calls Tryz.prog 82 #[.slice SA m cap] w fun r w' => r = .returned (.bool (l.all DV.plain)) ∧ Below w.heap.size w w' := by
 subst hm
 have HA : ∀ i (h : i < l.length), (l[i]).plain = false → l.all DV.plain = false := fun i h hh => by
  rw [List.all_eq_false]
  exact ⟨l[i], List.getElem_mem h, by rw [hh]; simp⟩
 have HB : (∀ j (h : j < l.length), (l[j]).plain = true) → l.all DV.plain = true := fun h => by
  rw [List.all_eq_true]
  intro t ht
  obtain ⟨j, hj, rfl⟩ := List.mem_iff_getElem.1 ht
  exact h j hj
 generalize l.all DV.plain = q at *
 have HA := Be HA
 have HB := Be HB
 go_enter Tryz.func82, Tryz.ntmps82
 go_wp2
 go_loopw [7] (fun v wr => ∃ i : Nat, i ≤ l.length ∧ v = .int .i64 i ∧ Hid (∀ j (h : j < l.length), j < i → (l[j]).plain = true) ∧ Below w.heap.size w wr) (fun v _ => l.length - (intOf v).toNat)
 case atStart => exact ⟨0, Nat.zero_le _, rfl, fun j _ h => absurd h (by omega), Bb w⟩
 case round =>
  obtain ⟨i, hi, rfl, hI, hW⟩ := hrel
  by_cases h0 : i < l.length
  ·have hD := h.later hW
   obtain ⟨g, o, rfl, -, hd0, hd1, hd2⟩ := hD.mem (by omega)
   have k0 := hd0 i h0
   have k1 := hd1 i h0
   have k2 := hd2 i h0
   clear hd0 hd1 hd2
   have ho := hD.ok i h0
   have a1 := HA.out i h0
   have i1 := hI.out
   have HN : (l[i]).plain = true → ∀ j (h : j < l.length), j < i + 1 → (l[j]).plain = true := fun hp j h hj => by
    by_cases hji : j = i
    ·subst hji; exact hp
    ·exact i1 j h (by omega)
   generalize hx : l[i] = x at *
   obtain ⟨neg, A, n, c, xs, e⟩ := x
   have HN := Be HN
   have HF := Be a1
   have bx := Bg wr #[.bool neg, .slice A n c, .int .i64 e] 26
   have b1 := Ba (Bb wr) (.cells #[.bool neg, .slice A n c, .int .i64 e] 26)
   have PL := Be (plain neg A n c xs e _ (Arr.below ho b1))
   clear i1 a1 hx hI
   simp only at k0 k1 k2
   go_wp2_with fail
   refine PL.out.mono ?_; rintro r w4 ⟨rfl, hb4⟩
   have hW4 : Below w.heap.size w w4 := Bc (hW.trans (Ba (Bb wr) _ |>.mono hW.size)) hb4
   cases hp : Bq neg xs e
   ·have HQ := Be (HF.out hp)
    go_wp2_with fail
    go_ret
    exact ⟨by rw [HQ.out]; rfl, hW4⟩
   ·have HN := Be (HN.out hp)
    go_wp2_with fail
    exact ⟨⟨i + 1, by omega, by go_num, HN.out, hW4⟩, by simp only [intOf]; omega⟩
  ·obtain rfl : i = l.length := by omega
   have HQ := Be (HB.out (fun j h => hI.out j h h))
   go_wp2
   go_ret
   exact ⟨by rw [HQ.out]; rfl, hW⟩
theorem Bd2 (g m : Nat) (l : List DV) (hm : l.length = m) (w : World) (h : DVs w g l) (hl : m ≤ 1000000) :
  Calls Tryz.prog 82 #[.slice (some ⟨g, 0, none⟩) m m] w fun r w' => r = .returned (.bool (l.all DV.plain)) ∧ Below w.heap.size w w' := Ba1 _ m m l hm w h.any hl
end Go.Proofs.YteffemhapnbaeaaGreatDoor
