/- A text of ours, with only what the claim's row needs (wip/tools/shake.py). -/
import Derived.Test.YteffemhapnbaeaaGreatDoorMA
namespace Go.Proofs.YteffemhapnbaeaaGreatDoor
open Go.RowKit Num
set_option maxRecDepth 100000

theorem trim (A : Option Addr) (n c : Nat) (xs : List Int) (w : World) (h : Arr w A n c xs) :
    Calls Tryz.prog 115 #[.slice A n c] w fun e w' => e = .returned (.slice A (wd (val xs)).length c) ∧ w = w' := by
  have hl := h.len
  have hcap := h.cap
  have hbig := h.big
  go_enter Tryz.func115, Tryz.ntmps115
  go_wp2
  go_loop [0] (fun v => ∃ k : Nat, k ≤ n ∧ v = .slice A k c ∧ val (xs.take k) = val xs) (fun v => match v with | .slice _ k _ => k | _ => 0)
  case atStart => exact ⟨n, Nat.le_refl _, rfl, by rw [← hl, List.take_length]⟩
  case round =>
    obtain ⟨k, hk, rfl, hv⟩ := hrel
    have HV := Lib.hid hv
    have HL := Lib.hid hl
    clear hv hl
    by_cases h0 : 0 < k
    · obtain ⟨b, o, rfl, hlt, hc⟩ := h.mem (by omega)
      have hcell := hc (k - 1) (by omega)
      clear hc
      go_wp2
      · have hz : (xs[k - 1]?.getD 0 == 0) = true := by assumption
        have hz' : xs[k - 1]?.getD 0 = 0 := by simpa using hz
        exact ⟨⟨k - 1, by omega, rfl, trim_go h0 (by rw [HL.out]; exact hk) hz' HV.out⟩, by simp; omega⟩
      · have hz : (xs[k - 1]?.getD 0 == 0) = false := by assumption
        have hz' : xs[k - 1]?.getD 0 ≠ 0 := by simpa using hz
        have e := trim_end h.wf h0 (by rw [HL.out]; exact hk) hz' HV.out
        go_ret
        refine ⟨?_, rfl⟩
        rw [e, List.length_take, HL.out, Nat.min_eq_left hk]
        rfl
    · obtain rfl : k = 0 := by omega
      have e : wd (val xs) = [] := by rw [← HV.out]; exact wd_zero (Int.le_refl _)
      go_wp2
      go_ret
      exact ⟨by first | rfl | (rw [e]; rfl), rfl⟩

theorem cmpI_lt {x y : Int} (h : x < y) : cmpI x y = -1 := by rw [cmpI, if_pos h]
theorem cmpI_eq {x y : Int} (h : x = y) : cmpI x y = 0 := by rw [cmpI, if_neg (by omega), if_pos h]
theorem cmpI_gt {x y : Int} (h : y < x) : cmpI x y = 1 := by rw [cmpI, if_neg (by omega), if_neg (by omega)]
theorem ncmp (A A' : Option Addr) (n c n' c' : Nat) (xs ys : List Int) (w : World) (h : Arr w A n c xs) (h' : Arr w A' n' c' ys) :
    Calls Tryz.prog 120 #[.slice A n c, .slice A' n' c'] w fun e w' => e = .returned (.int .i64 (cmpI (val xs) (val ys))) ∧ Still w w' := by
  have hx := h.trim
  have hy := h'.trim
  have nx := h.val_nonneg
  have ny := h'.val_nonneg
  have bx := hx.cap
  have cx := hx.big
  have by' := hy.cap
  have cy := hy.big
  have wx := hx.wf
  have wy := hy.wf
  by_cases hl : (wd (val xs)).length = (wd (val ys)).length
  · have HL := Lib.hid hl
    have hlb : (((wd (val xs)).length : Int) != ((wd (val ys)).length : Int)) = false := by simp [hl]
    clear hl
    go_enter Tryz.func120, Tryz.ntmps120
    go_wp2_with fail
    refine (trim A n c xs _ h).mono ?_; rintro e w' ⟨rfl, rfl⟩
    go_wp2_with fail
    refine (trim A' n' c' ys _ h').mono ?_; rintro e w' ⟨rfl, rfl⟩
    have e1 := HL.out
    generalize hX : wd (val xs) = X at *
    generalize hY : wd (val ys) = Y at *
    have HX := Lib.hid hX
    have HY := Lib.hid hY
    clear hX hY e1
    go_wp2
    go_loopw [5] (fun v wr => ∃ r : Nat, r ≤ X.length ∧ v = .int .i64 ((r : Int) - 1) ∧ Hid (X.drop r = Y.drop r) ∧ Still w wr) (fun v _ => (intOf v + 1).toNat)
    case atStart => exact ⟨X.length, Nat.le_refl _, rfl, by show _ = _; rw [List.drop_length, HL.out, List.drop_length], Still.refl _⟩
    case round =>
      obtain ⟨r, hr, rfl, hd, ⟨m, rfl⟩⟩ := hrel
      by_cases h0 : 0 < r
      · obtain ⟨b, o, rfl, hlt, hc⟩ := hx.mem (by omega)
        obtain ⟨b', o', rfl, hlt', hc'⟩ := hy.mem (by rw [← HL.out]; omega)
        obtain ⟨q, rfl⟩ : ∃ q, r = q + 1 := ⟨r - 1, by omega⟩
        rw [show (((q + 1 : Nat) : Int) - 1) = (q : Int) from by omega]
        have k1 := hc q (by omega)
        have k2 := hc' q (by rw [← HL.out]; omega)
        have l1 : (q : Int) < X.length := by omega
        have l2 : (q : Int) < Y.length := by have := HL.out; omega
        clear hc hc'
        go_wp2
        go_quiet (fail)
        go_wp2
        · have hne : (X[q]?.getD 0 != Y[q]?.getD 0) = true := by assumption
          have hne' : X[q]?.getD 0 ≠ Y[q]?.getD 0 := by simpa using hne
          go_quiet (fail)
          go_wp2
          · have hlt : X[q]?.getD 0 < Y[q]?.getD 0 := by assumption
            have hv := lt_of_word wx HL.out wy (by omega) hd.out hlt
            rw [← HX.out, ← HY.out, val_wd _ nx, val_wd _ ny] at hv
            have e := cmpI_lt hv
            go_ret
            exact ⟨by rw [e]; rfl, (by repeat (first | exact Still.refl _ | apply Still.drewN | apply Still.drew))⟩
          · have hge : Y[q]?.getD 0 ≤ X[q]?.getD 0 := by first | assumption | exact Int.not_lt.1 (by assumption)
            have hlen := HL.out
            have hv := lt_of_word wy hlen.symm wx (i := q) (by omega) hd.out.symm (by omega)
            rw [← HX.out, ← HY.out, val_wd _ nx, val_wd _ ny] at hv
            have e := cmpI_gt hv
            go_ret
            exact ⟨by rw [e]; rfl, (by repeat (first | exact Still.refl _ | apply Still.drewN | apply Still.drew))⟩
        · have hne : (X[q]?.getD 0 != Y[q]?.getD 0) = false := by assumption
          have hne' : X[q]?.getD 0 = Y[q]?.getD 0 := by simpa using hne
          exact ⟨⟨q, by omega, rfl, drop_same HL.out (by omega) hd.out hne', (by repeat (first | exact Still.refl _ | apply Still.drewN | apply Still.drew))⟩, by simp only [intOf]; omega⟩
      · obtain rfl : r = 0 := by omega
        have hd' : X = Y := hd.out
        have hv : val xs = val ys := by rw [← val_wd _ nx, ← val_wd _ ny, HX.out, HY.out, hd']
        have e := cmpI_eq hv
        have HE := Lib.hid e
        clear hv e hd' hd
        go_wp2
        go_ret
        exact ⟨by rw [HE.out]; rfl, (by repeat (first | exact Still.refl _ | apply Still.drewN | apply Still.drew))⟩
  · have hlb : (((wd (val xs)).length : Int) != ((wd (val ys)).length : Int)) = true := by simp; omega
    by_cases hlt : (wd (val xs)).length < (wd (val ys)).length
    all_goals
      go_enter Tryz.func120, Tryz.ntmps120
      go_wp2_with fail
      refine (trim A n c xs _ h).mono ?_; rintro e w' ⟨rfl, rfl⟩
      go_wp2_with fail
      refine (trim A' n' c' ys _ h').mono ?_; rintro e w' ⟨rfl, rfl⟩
      go_wp2
      go_ret
    · exact ⟨by rw [cmpI_lt (lt_of_len nx hlt)]; rfl, (by repeat (first | exact Still.refl _ | apply Still.drewN | apply Still.drew))⟩
    · exact ⟨by rw [cmpI_gt (lt_of_len ny (by omega))]; rfl, (by repeat (first | exact Still.refl _ | apply Still.drewN | apply Still.drew))⟩

end Go.Proofs.YteffemhapnbaeaaGreatDoor
namespace Go.Proofs.YteffemhapnbaeaaGreatDoor
open Go.RowKit Num
set_option maxRecDepth 100000

def maxShift : Int := 1048576
/-- A shift down, where it may be asked. -/
def shrI (v n : Int) : Int := if 0 ≤ n ∧ n ≤ maxShift then v / 2 ^ n.toNat else 0
theorem shr_in (A : Option Addr) (n c : Nat) (xs : List Int) (m r : Nat) (w : World) (h : Arr w A n c xs) (hn : n ≤ 17592186044416) (hr : r < 64) (hk : 64 * m + r ≤ 1048576) (hm : m < n) :
    Calls Tryz.prog 135 #[.slice A n c, .int .i64 ((64 * m + r : Nat) : Int)] w fun e w' => ∃ A' n' c', e = .returned (.slice A' n' c') ∧ Arr w' A' n' c' (wd (val (shrL r (xs.drop m)))) ∧ Below w.heap.size w w' := by
  have hl := h.len
  have hcap := h.cap
  have hbig := h.big
  have h1 : decide (((64 * m + r : Nat) : Int) < 0) = false := by simp; omega
  have h2 : decide (1048576 < ((64 * m + r : Nat) : Int)) = false := by simp; omega
  have q1 : ((64 * m + r : Nat) : Int) / 64 = m := by omega
  have q2 : ((64 * m + r : Nat) : Int) % 64 = r := by omega
  have q3 : decide ((n : Int) ≤ m) = false := by simp; omega
  generalize hK : ((64 * m + r : Nat) : Int) = K at *
  have hK0 : 0 ≤ K := by omega
  have hK1 : K ≤ 1048576 := by omega
  have HL := Lib.hid hl
  clear hK hl
  go_enter Tryz.func135, Tryz.ntmps135
  go_wp2_with (at_make; refine wp_make rfl _ _ rfl _ _ (n - m) rfl rfl ?m1 ?m2 ?m3 ?_)
  case m1 => omega
  case m2 => omega
  case m3 => omega
  intro g w1 hg hrow hb
  have hbw : Below w.heap.size w w1 := hb.mono (Nat.le_of_eq hg.symm)
  have HG := Lib.hid hg
  clear hb hg
  go_wp2
  have hlen : (shrL r (xs.drop m)).length = n - m := by rw [shrL_length, List.length_drop, HL.out]
  have hget : ∀ i, i < n - m → (shrL r (xs.drop m)).getD i 0 = xs.getD (i + m) 0 / pw r + xs.getD (i + m + 1) 0 * pw (64 - r) % B := by
    intro i hi
    rw [shrL_get r _ i (by rw [List.length_drop, HL.out]; exact hi)]
    simp only [List.getD_eq_getElem?_getD, List.getElem?_drop]
    rw [show m + i = i + m from by omega, show m + (i + 1) = i + m + 1 from by omega]
  have hwT : Wf (shrL r (xs.drop m)) := wf_shrL (by omega) (h.wf.drop m)
  generalize hS : shrL r (xs.drop m) = T at *
  have HS := Lib.hid hS
  clear hS
  have HT := Lib.hid hlen
  have HGet := Lib.hid hget
  clear hlen hget
  go_loopw [33] (fun v wr => ∃ i : Nat, i ≤ n - m ∧ v = .int .i64 i ∧ Row wr g (fill T i) ∧ Below w.heap.size w wr) (fun v _ => n - m - (intOf v).toNat)
  case atStart => exact ⟨0, Nat.zero_le _, rfl, by rw [fill_zero, HT.out]; exact hrow, hbw⟩
  case round =>
    obtain ⟨i, hi, rfl, hR, hW⟩ := hrel
    by_cases h0 : i < n - m
    · have hA := h.below hW
      obtain ⟨b, o, rfl, hlt, hc⟩ := hA.mem (by omega)
      have hgb : b < g := by
        obtain ⟨b', o', e, hlt', _⟩ := h.mem (by omega)
        cases e
        have := HG.out; omega
      have k1 := hc (i + m) (by omega)
      have x1 := hA.words (i + m)
      have k2 : i + m + 1 < n → wr.cell? ⟨b, o + (i + m + 1), none⟩ = some (.int .u64 (xs.getD (i + m + 1) 0)) := fun hh => hc (i + m + 1) hh
      have r1 := hR.cell i (by rw [fill_length _ _ (by rw [HT.out]; exact hi), HT.out]; exact h0)
      have r2 := hR.free i
      clear hc
      have v1 : 0 ≤ xs[i + m]?.getD 0 / 2 ^ r ∧ xs[i + m]?.getD 0 / 2 ^ r < 18446744073709551616 := by
        have hp : (0 : Int) < 2 ^ r := Int.pow_pos (by decide)
        rw [List.getD_eq_getElem?_getD] at x1
        exact ⟨Int.ediv_nonneg x1.1 (by omega), Int.lt_of_le_of_lt (Int.ediv_le_self _ x1.1) x1.2⟩
      have hW2 := below_set hW g i (by have := HG.out; omega) (.int .u64 (xs[i + m]?.getD 0 / 2 ^ r))
      have hR2 := hR.set i (by rw [fill_length _ _ (by rw [HT.out]; exact hi), HT.out]; exact h0) _ v1.1 v1.2
      have HV := Lib.hid v1
      clear v1
      go_wp2
      · have hlt2 : i + m + 1 < n := by omega
        generalize wr.setCell ⟨g, i, none⟩ (.int .u64 (xs[i + m]?.getD 0 / 2 ^ r)) = w2 at *
        obtain ⟨b', o', e', hlt', hc⟩ := (h.below hW2).mem (by omega)
        cases e'
        have k3 := hc (i + m + 1) hlt2
        have r3 := hR2.cell i (by rw [List.length_set, fill_length _ _ (by rw [HT.out]; exact hi), HT.out]; exact h0)
        rw [getD_set_same _ _ _ (by rw [fill_length _ _ (by rw [HT.out]; exact hi), HT.out]; exact h0)] at r3
        have r4 := hR2.free i
        clear hc k1 k2 r1 r2
        go_region
        all_goals go_wp2
        have e : bits BinOp.or IntKind.u64 (xs[i + m]?.getD 0 / 2 ^ r) (IntKind.u64.wrap (xs[i + m + 1]?.getD 0 * 2 ^ (64 - r))) = T.getD i 0 := by
          rw [HGet.out i h0, List.getD_eq_getElem?_getD, List.getD_eq_getElem?_getD]
          rw [List.getD_eq_getElem?_getD] at x1
          exact or_shift (by omega) x1.1 x1.2 (by rw [← List.getD_eq_getElem?_getD]; exact (h.words (i + m + 1)).1)
        refine ⟨⟨i + 1, by omega, by go_num, ?_, ?_⟩, by simp [intOf]; omega⟩
        · exact (hR2.fill2 (by rw [HT.out]; exact h0) hwT _ e).drew
        · exact (below_set hW2 g i (by have := HG.out; omega) _).drew
      · have hge : n ≤ i + m + 1 := by omega
        have e : xs[i + m]?.getD 0 / 2 ^ r = T.getD i 0 := by
          have z : xs.getD (i + m + 1) 0 = 0 := by rw [List.getD_eq_getElem?_getD, List.getElem?_eq_none (by rw [HL.out]; exact hge)]; rfl
          rw [HGet.out i h0, z, List.getD_eq_getElem?_getD]
          simp [pw]
        refine ⟨⟨i + 1, by omega, by go_num, ?_, hW2⟩, by simp [intOf]; omega⟩
        exact hR.fill (by rw [HT.out]; exact h0) hwT _ e
    · obtain rfl : i = n - m := by omega
      have hR2 : Row wr g T := by rw [← HT.out, fill_all] at hR; exact hR
      have hA2 := hR2.arr' HT.out (Nat.le_refl _) (by omega)
      clear hR
      go_wp2_with fail
      refine (trim _ _ _ _ _ hA2).mono ?_; rintro e w' ⟨rfl, rfl⟩
      go_wp2
      go_ret
      exact ⟨_, _, _, rfl, by rw [HS.out]; exact hA2.trim, hW⟩
theorem shrI_eq {v n : Int} (h0 : 0 ≤ n) (h1 : n ≤ 1048576) : shrI v n = v / 2 ^ n.toNat := by unfold shrI maxShift; rw [if_pos ⟨h0, h1⟩]
theorem shrI_out {v n : Int} (h : ¬ (0 ≤ n ∧ n ≤ 1048576)) : shrI v n = 0 := by unfold shrI maxShift; rw [if_neg h]
theorem shr_val {xs : List Int} (hw : Wf xs) {m r : Nat} (hr : r < 64) : val (shrL r (xs.drop m)) = val xs / 2 ^ (64 * m + r) := by
  rw [val_shrL (by omega) (hw.drop m), val_drop hw, B_pow_pw]
  have := pw_pos (64 * m)
  rw [Int.ediv_ediv_of_nonneg (by omega)]
  show _ / (pw _ * pw _) = _ / pw _
  rw [pw_add]
theorem shr_far {xs : List Int} (hw : Wf xs) {q : Nat} (hq : xs.length ≤ q / 64) : val xs / 2 ^ q = 0 := by
  refine Int.ediv_eq_zero_of_lt (val_nonneg hw) (Int.lt_of_lt_of_le (val_lt hw) ?_)
  rw [B_pow_pw]
  show pw _ ≤ pw _
  obtain ⟨d, hd⟩ : ∃ d, q = 64 * xs.length + d := ⟨q - 64 * xs.length, by omega⟩
  rw [hd, pw_add]
  have h1 := pw_pos (64 * xs.length)
  have h2 := pw_pos d
  have : pw (64 * xs.length) * 1 ≤ pw (64 * xs.length) * pw d := Int.mul_le_mul_of_nonneg_left (by omega) (by omega)
  omega
theorem shr (A : Option Addr) (n c : Nat) (xs : List Int) (k : Int) (w : World) (h : Arr w A n c xs) (hn : n ≤ 17592186044416) (hk0 : -9223372036854775808 ≤ k) (hk1 : k ≤ 9223372036854775807) :
    Calls Tryz.prog 135 #[.slice A n c, .int .i64 k] w fun e w' => ∃ A' n' c', e = .returned (.slice A' n' c') ∧ Arr w' A' n' c' (wd (shrI (val xs) k)) ∧ Below w.heap.size w w' := by
  by_cases hk : 0 ≤ k ∧ k ≤ 1048576 ∧ k / 64 < n
  · obtain ⟨q, rfl⟩ := Int.eq_ofNat_of_zero_le hk.1
    obtain ⟨m, r, hr, rfl⟩ : ∃ m r : Nat, r < 64 ∧ q = 64 * m + r := ⟨q / 64, q % 64, by omega, by omega⟩
    have := shr_in A n c xs m r w h hn hr (by omega) (by omega)
    rw [shr_val h.wf hr] at this
    rw [shrI_eq hk.1 hk.2.1]
    exact this
  · have e : wd (shrI (val xs) k) = [] := by
      by_cases hk' : 0 ≤ k ∧ k ≤ 1048576
      · obtain ⟨q, rfl⟩ := Int.eq_ofNat_of_zero_le hk'.1
        rw [shrI_eq hk'.1 hk'.2, Int.toNat_natCast, shr_far h.wf (by rw [h.len]; omega)]; exact wd_zero (Int.le_refl _)
      · rw [shrI_out hk']; exact wd_zero (Int.le_refl _)
    rw [e]
    have hnil : ∀ w : World, Arr w none 0 0 [] := fun w => Arr.nothing w
    by_cases h0 : k < 0
    · have h1 : decide (k < 0) = true := by simp [h0]
      go_enter Tryz.func135, Tryz.ntmps135
      go_wp2
      go_ret
      exact ⟨_, _, _, rfl, hnil _, below_self w⟩
    · have h1 : decide (k < 0) = false := by simp [h0]
      by_cases h2 : 1048576 < k
      · have h3 : decide (1048576 < k) = true := by simp [h2]
        go_enter Tryz.func135, Tryz.ntmps135
        go_wp2
        go_ret
        exact ⟨_, _, _, rfl, hnil _, below_self w⟩
      · have h3 : decide (1048576 < k) = false := by simp; omega
        have h4 : decide ((n : Int) ≤ k / 64) = true := by simp; omega
        go_enter Tryz.func135, Tryz.ntmps135
        go_wp2
        go_ret
        exact ⟨_, _, _, rfl, hnil _, below_self w⟩
end Go.Proofs.YteffemhapnbaeaaGreatDoor
namespace Go.Proofs.YteffemhapnbaeaaGreatDoor
open Go.RowKit Num
set_option maxRecDepth 100000

/-- The state of a shift up, i words done. -/
structure ShlInv (s xs : List Int) (k r i : Nat) : Prop where
  len : s.length = xs.length + k + 1
  v : val s = B ^ k * pw r * val (xs.take i)
  c : s.getD (i + k) 0 < pw r
  z : ∀ j, i + k < j → s.getD j 0 = 0
theorem getD_replicate (n j : Nat) : (List.replicate n (0 : Int)).getD j 0 = 0 := by
  rw [List.getD_eq_getElem?_getD, List.getElem?_replicate]; split <;> rfl
theorem shl_start (xs : List Int) (k r : Nat) : ShlInv (List.replicate (xs.length + k + 1) 0) xs k r 0 :=
  ⟨by simp, by rw [val_replicate]; simp [val], by rw [getD_replicate]; exact pw_pos r, fun j _ => getD_replicate _ j⟩
theorem val_take_succ (xs : List Int) (i : Nat) (hi : i < xs.length) : val (xs.take (i + 1)) = val (xs.take i) + B ^ i * xs.getD i 0 := by
  rw [take_last (xs := xs) (k := i + 1) (by omega) (by omega), Nat.add_sub_cancel, val_append, List.length_take, Nat.min_eq_left (by omega), List.getD_eq_getElem?_getD]
  simp [val]
theorem shl_word {x : Int} {r : Nat} (hr : r ≤ 64) : x * pw r = x * pw r % B + B * (x / pw (64 - r)) := by
  have hB := B_split hr
  have hp := pw_pos r
  have h1 : x * pw r / B = x / pw (64 - r) := by
    rw [hB, Int.mul_comm (pw r), Int.mul_ediv_mul_of_pos_left _ _ hp]
  have := Int.emod_add_mul_ediv (x * pw r) B
  rw [h1] at this; exact this.symm
theorem shl_step {s xs : List Int} {k r i : Nat} (h : ShlInv s xs k r i) (hr : r < 64) (hi : i < xs.length) (hw : Wf xs) :
    ShlInv ((s.set (i + k) (s.getD (i + k) 0 + xs.getD i 0 * pw r % B)).set (i + k + 1) (xs.getD i 0 / pw (64 - r))) xs k r (i + 1) := by
  have hl := h.len
  have hx := hw.getD i
  have hv := h.v
  have e := shl_word (x := xs.getD i 0) (Nat.le_of_lt hr)
  have hlt : xs.getD i 0 / pw (64 - r) < pw r := Int.ediv_lt_of_lt_mul (pw_pos _) (by rw [← B_split (Nat.le_of_lt hr), B_eq]; exact hx.2)
  have ht := val_take_succ xs i hi
  have g1 : ∀ v, (s.set (i + k) v).getD (i + k + 1) 0 = 0 := fun v => by rw [getD_set_other _ _ _ _ (by omega)]; exact h.z _ (by omega)
  have z := h.z
  generalize xs.getD i 0 * pw r % B = a at *
  generalize xs.getD i 0 / pw (64 - r) = b at *
  refine ⟨by simp [hl], ?_, ?_, ?_⟩
  · rw [val_set _ _ _ (by simp; omega), val_set _ _ _ (by omega), g1, hv, ht, Int.sub_zero]
    have e1 : s.getD (i + k) 0 + a - s.getD (i + k) 0 = a := by omega
    have e2 : B ^ (i + k + 1) = B ^ k * B ^ i * B := by rw [Int.pow_succ, Nat.add_comm, Int.pow_add]
    have e3 : B ^ (i + k) = B ^ k * B ^ i := by rw [Nat.add_comm, Int.pow_add]
    rw [e1, e2, e3]
    generalize B ^ k = p at *
    generalize B ^ i = q at *
    generalize xs.getD i 0 = x at *
    have e4 : p * pw r * (val (xs.take i) + q * x) = p * pw r * val (xs.take i) + p * q * (x * pw r) := by grind
    rw [e4, e]; grind
  · rw [show i + 1 + k = i + k + 1 from by omega, getD_set_same _ _ _ (by simp; omega)]
    exact hlt
  · intro j hj
    rw [getD_set_other _ _ _ _ (by omega), getD_set_other _ _ _ _ (by omega)]
    exact z j (by omega)
theorem or_shl {x c : Int} {r : Nat} (hr : r < 64) (_hx0 : 0 ≤ x) (hc : 0 ≤ c) (hc' : c < pw r) : bits .or .u64 c (IntKind.u64.wrap (x * 2 ^ r)) = c + x * pw r % B := by
  have hp := pw_pos r
  have hq := pw_pos (64 - r)
  have hB := B_split (Nat.le_of_lt hr)
  have b : x * pw r % B = (x % pw (64 - r)) * pw r := by
    rw [hB, Int.mul_comm (pw r)]; exact mod_mul_left _ _ _ hq hp
  have c1 : 0 ≤ x % pw (64 - r) := Int.emod_nonneg _ (by omega)
  have c2 : x % pw (64 - r) < pw (64 - r) := Int.emod_lt_of_pos _ hq
  have d2 : (x % pw (64 - r)) * pw r < pw (64 - r) * pw r := Int.mul_lt_mul_of_pos_right c2 hp
  rw [Int.mul_comm (pw (64 - r)), ← hB, B_eq] at d2
  have e := or_add (s := r) (by omega) hc hc' c1 d2
  rw [IntKind.wrap_u64]
  show bits .or .u64 c (x * pw r % B) = _
  rw [b]; exact e
theorem shl_sum {x c : Int} {r : Nat} (hr : r < 64) (hc : 0 ≤ c) (hc' : c < pw r) : 0 ≤ c + x * pw r % B ∧ c + x * pw r % B < 18446744073709551616 := by
  have hp := pw_pos r
  have hq := pw_pos (64 - r)
  have hB := B_split (Nat.le_of_lt hr)
  have b : x * pw r % B = (x % pw (64 - r)) * pw r := by
    rw [hB, Int.mul_comm (pw r)]; exact mod_mul_left _ _ _ hq hp
  have c1 : 0 ≤ x % pw (64 - r) := Int.emod_nonneg _ (by omega)
  have c2 : x % pw (64 - r) < pw (64 - r) := Int.emod_lt_of_pos _ hq
  have d1 : 0 ≤ (x % pw (64 - r)) * pw r := Int.mul_nonneg c1 (by omega)
  have d2 : (x % pw (64 - r) + 1) * pw r ≤ pw (64 - r) * pw r := Int.mul_le_mul_of_nonneg_right (by omega) (by omega)
  rw [Int.add_mul, Int.one_mul, Int.mul_comm (pw (64 - r)), ← hB, B_eq] at d2
  rw [b]; omega
def shlI (v n : Int) : Int := if 0 ≤ n ∧ n ≤ maxShift then v * 2 ^ n.toNat else 0
theorem shl_in (A : Option Addr) (n c : Nat) (xs : List Int) (m r : Nat) (w : World) (h : Arr w A n c xs) (hn : n ≤ 100000000) (hr : r < 64) (hk : 64 * m + r ≤ 1048576) (h0 : 0 < val xs) :
    Calls Tryz.prog 100 #[.slice A n c, .int .i64 ((64 * m + r : Nat) : Int)] w fun e w' => ∃ A' n' c', e = .returned (.slice A' n' c') ∧ Arr w' A' n' c' (wd (val xs * pw (64 * m + r))) ∧ Below w.heap.size w w' := by
  have hx := h.trim
  have hlen := wd_len h.wf
  rw [h.len] at hlen
  have hpos : 0 < (wd (val xs)).length := List.length_pos_iff.2 (wd_ne_nil h0)
  have hvX : val (wd (val xs)) = val xs := val_wd _ (by omega)
  have T := trim A n c xs
  generalize hX : wd (val xs) = X at *
  have HX := Lib.hid hX
  have HV := Lib.hid hvX
  have HT := Lib.hid (fun w => T w)
  clear hX hvX T
  have h1 : decide (((64 * m + r : Nat) : Int) < 0) = false := by simp; omega
  have h2 : decide (1048576 < ((64 * m + r : Nat) : Int)) = false := by simp; omega
  have h3 : ((X.length : Int) == 0) = false := beq_eq_false_iff_ne.2 (by omega)
  have q1 : ((64 * m + r : Nat) : Int) / 64 = m := by omega
  have q2 : ((64 * m + r : Nat) : Int) % 64 = r := by omega
  generalize hK : ((64 * m + r : Nat) : Int) = K at *
  have hK0 : 0 ≤ K := by omega
  have hK1 : K ≤ 1048576 := by omega
  clear hK
  have hm : m ≤ 16384 := by omega
  go_enter Tryz.func100, Tryz.ntmps100
  go_wp2_with fail
  refine (HT.out w h).mono ?_; rintro e w' ⟨rfl, rfl⟩
  go_wp2_with (at_make; refine wp_make rfl _ _ rfl _ _ (X.length + m + 1) rfl rfl ?m1 ?m2 ?m3 ?_)
  case m1 => omega
  case m2 => omega
  case m3 => omega
  intro g w1 hg hrow hb
  have hbw : Below w.heap.size w w1 := hb.mono (Nat.le_of_eq hg.symm)
  have HG := Lib.hid hg
  clear hb hg
  go_wp2
  go_loopw [36] (fun v wr => ∃ (i : Nat) (S : List Int), i ≤ X.length ∧ v = .int .i64 i ∧ Row wr g S ∧ ShlInv S X m r i ∧ Below w.heap.size w wr) (fun v _ => X.length - (intOf v).toNat)
  case atStart => exact ⟨0, _, Nat.zero_le _, rfl, hrow, shl_start X m r, hbw⟩
  case round =>
    obtain ⟨i, S, hi, rfl, hR, hI, hW⟩ := hrel
    by_cases h0 : i < X.length
    · have hA := hx.below hW
      obtain ⟨b, o, rfl, hlt, hc⟩ := hA.mem (by omega)
      have hgb : b < g := by
        obtain ⟨b', o', e, hlt', _⟩ := hx.mem (by omega)
        cases e
        have := HG.out; omega
      have k1 := hc i h0
      have x1 := hA.words i
      have hl := hI.len
      have r1 := hR.cell (i + m) (by omega)
      have r2 := hR.free (i + m)
      have r3 := hR.cell (i + m + 1) (by omega)
      have r4 := hR.free (i + m + 1)
      have c1 := hI.c
      have c0 := hR.wf.getD (i + m)
      have hst := shl_step hI hr h0 hx.wf
      have hz := hI.z (i + m + 1) (by omega)
      have hov := or_shl (x := X.getD i 0) hr x1.1 c0.1 c1
      have hsm := shl_sum (x := X.getD i 0) hr c0.1 c1
      have hR2 := hR.set (i + m) (by omega) _ hsm.1 hsm.2
      have hW2 := fun v => below_set hW g (i + m) (by have := HG.out; omega) v
      clear hc
      generalize hx0 : X.getD i 0 = x at *
      generalize S.getD (i + m) 0 = cc at *
      have HST := Lib.hid hst
      have HOV := Lib.hid hov
      clear hst hov hz hx0
      have hq := pw_pos (64 - r)
      have d0 : 0 ≤ x / pw (64 - r) := Int.ediv_nonneg x1.1 (by omega)
      have d1 : x / pw (64 - r) < 18446744073709551616 := Int.lt_of_le_of_lt (Int.ediv_le_self _ x1.1) x1.2
      have hR3 := hR2.set (i + m + 1) (by rw [List.length_set]; omega) _ d0 d1
      go_wp2
      refine ⟨⟨i + 1, _, by omega, by go_num, by rw [HOV.out]; exact hR3, HST.out, ?_⟩, by simp only [intOf]; omega⟩
      exact below_set (hW2 _) g _ (by have := HG.out; omega) _
    · obtain rfl : i = X.length := by omega
      have hv := hI.v
      have hl := hI.len
      rw [List.take_length, HV.out] at hv
      have hA2 := hR.arr' hl (Nat.le_refl _) (by omega)
      have e : val S = val xs * pw (64 * m + r) := by rw [hv, pw_add, B_pow_pw]; grind
      have HE := Lib.hid e
      clear e hv
      go_wp2_with fail
      refine (trim _ _ _ _ _ hA2).mono ?_; rintro e w' ⟨rfl, rfl⟩
      go_wp2
      go_ret
      exact ⟨_, _, _, rfl, by rw [← HE.out]; exact hA2.trim, hW⟩
theorem shlI_eq {v n : Int} (h0 : 0 ≤ n) (h1 : n ≤ 1048576) : shlI v n = v * 2 ^ n.toNat := by unfold shlI maxShift; rw [if_pos ⟨h0, h1⟩]
theorem shlI_out {v n : Int} (h : ¬ (0 ≤ n ∧ n ≤ 1048576)) : shlI v n = 0 := by unfold shlI maxShift; rw [if_neg h]
theorem shl (A : Option Addr) (n c : Nat) (xs : List Int) (k : Int) (w : World) (h : Arr w A n c xs) (hn : n ≤ 100000000) (hk0 : -9223372036854775808 ≤ k) (hk1 : k ≤ 9223372036854775807) :
    Calls Tryz.prog 100 #[.slice A n c, .int .i64 k] w fun e w' => ∃ A' n' c', e = .returned (.slice A' n' c') ∧ Arr w' A' n' c' (wd (shlI (val xs) k)) ∧ Below w.heap.size w w' := by
  have hv := h.val_nonneg
  by_cases hk : 0 ≤ k ∧ k ≤ 1048576 ∧ 0 < val xs
  · obtain ⟨q, rfl⟩ := Int.eq_ofNat_of_zero_le hk.1
    obtain ⟨m, r, hr, rfl⟩ : ∃ m r : Nat, r < 64 ∧ q = 64 * m + r := ⟨q / 64, q % 64, by omega, by omega⟩
    have := shl_in A n c xs m r w h hn hr (by omega) hk.2.2
    rw [shlI_eq hk.1 hk.2.1]
    exact this
  · have e : wd (shlI (val xs) k) = [] := by
      by_cases hk' : 0 ≤ k ∧ k ≤ 1048576
      · have : val xs = 0 := by omega
        rw [shlI_eq hk'.1 hk'.2, this, Int.zero_mul]; exact wd_zero (Int.le_refl _)
      · rw [shlI_out hk']; exact wd_zero (Int.le_refl _)
    rw [e]
    have T := Lib.hid (trim A n c xs w h)
    have hcap := h.trim.cap
    have hbig := h.big
    have hnil : ∀ w : World, Arr w none 0 0 [] := fun w => Arr.nothing w
    have hz : 0 ≤ k ∧ k ≤ 1048576 → ((wd (val xs)).length : Int) = 0 := fun hh => by
      have : val xs = 0 := by omega
      rw [this, wd_zero (Int.le_refl _)]; rfl
    generalize (wd (val xs)).length = l at *
    clear e
    by_cases h0 : k < 0
    · have h1 : decide (k < 0) = true := by simp [h0]
      go_enter Tryz.func100, Tryz.ntmps100
      go_wp2_with fail
      refine T.out.mono ?_; rintro e w' ⟨rfl, rfl⟩
      go_wp2
      go_ret
      exact ⟨_, _, _, rfl, hnil _, below_self w⟩
    · have h1 : decide (k < 0) = false := by simp [h0]
      by_cases h2 : 1048576 < k
      · have h3 : decide (1048576 < k) = true := by simp [h2]
        go_enter Tryz.func100, Tryz.ntmps100
        go_wp2_with fail
        refine T.out.mono ?_; rintro e w' ⟨rfl, rfl⟩
        go_wp2
        go_ret
        exact ⟨_, _, _, rfl, hnil _, below_self w⟩
      · have h3 : decide (1048576 < k) = false := by simp; omega
        have h4 : ((l : Int) == 0) = true := beq_iff_eq.2 (hz (by omega))
        clear hz
        go_enter Tryz.func100, Tryz.ntmps100
        go_wp2_with fail
        refine T.out.mono ?_; rintro e w' ⟨rfl, rfl⟩
        go_wp2
        go_ret
        exact ⟨_, _, _, rfl, hnil _, below_self w⟩
/-- How many binary digits. -/
def bl (v : Int) : Int := Go.bitLen v.toNat
theorem bl_zero : bl 0 = 0 := rfl
theorem bl_spec {v : Int} (h : 0 < v) : ∃ a : Nat, bl v = (a : Int) + 1 ∧ pw a ≤ v ∧ v < pw (a + 1) := by
  obtain ⟨n, rfl⟩ := Int.eq_ofNat_of_zero_le (Int.le_of_lt h)
  obtain ⟨h1, h2⟩ := Go.bitLen_spec n
  have h3 := h2 (by omega)
  have hp : 0 < Go.bitLen n := by
    by_cases hz : Go.bitLen n = 0
    · rw [hz] at h1; simp at h1; omega
    · omega
  refine ⟨Go.bitLen n - 1, ?_, ?_, ?_⟩
  · show ((Go.bitLen n : Nat) : Int) = _; omega
  · have : pw (Go.bitLen n - 1) = ((2 ^ (Go.bitLen n - 1) : Nat) : Int) := by unfold pw; simp
    rw [this]; omega
  · rw [Nat.sub_add_cancel hp]
    have : pw (Go.bitLen n) = ((2 ^ Go.bitLen n : Nat) : Int) := by unfold pw; simp
    rw [this]; omega
theorem bl_unique {v : Int} {a : Nat} (h0 : pw a ≤ v) (h1 : v < pw (a + 1)) : bl v = (a : Int) + 1 := by
  have hp := pw_pos a
  obtain ⟨b, hb, b0, b1⟩ := bl_spec (v := v) (by omega)
  have : a = b := by
    have c1 : a < b + 1 := pw_lt_iff.1 (by omega)
    have c2 : b < a + 1 := pw_lt_iff.1 (by omega)
    omega
  rw [hb, this]
theorem bl_nonneg (v : Int) : 0 ≤ bl v := by unfold bl; omega
theorem bl_pos {v : Int} (h : 0 < v) : 1 ≤ bl v := by
  obtain ⟨a, h1, _⟩ := bl_spec h; omega
theorem bl_lt {v : Int} {a : Nat} (h : 0 ≤ v) (hv : v < pw a) : bl v ≤ a := by
  by_cases h0 : v = 0
  · subst h0; rw [bl_zero]; omega
  · obtain ⟨b, h1, h2, _⟩ := bl_spec (v := v) (by omega)
    have : b < a := pw_lt_iff.1 (by omega)
    omega
theorem bl_words {X : List Int} (hw : Wf X) (ht : Top X) (h0 : 0 < X.length) : bl (val X) = 64 * ((X.length : Int) - 1) + bl (X[X.length - 1]?.getD 0) := by
  have hv := val_at X (X.length - 1) (by omega)
  have hx := hw.getD (X.length - 1)
  rw [List.getD_eq_getElem?_getD] at hx
  rw [Nat.sub_add_cancel h0, List.drop_length, val_nil, Int.mul_zero, Int.add_zero] at hv
  have hne : X[X.length - 1]?.getD 0 ≠ 0 := by
    unfold Top at ht
    rw [List.getLast?_eq_getElem?] at ht
    intro e
    rw [List.getElem?_eq_getElem (by omega)] at ht e
    exact ht (by rw [show X[X.length - 1] = 0 from e])
  obtain ⟨b, e, b0, b1⟩ := bl_spec (v := X[X.length - 1]?.getD 0) (by omega)
  have l1 := val_lt (hw.take (X.length - 1))
  have l2 := val_nonneg (hw.take (X.length - 1))
  rw [List.length_take, Nat.min_eq_left (by omega), B_pow_pw] at l1
  rw [B_pow_pw] at hv
  rw [e]
  have hp := pw_pos (64 * (X.length - 1))
  generalize X[X.length - 1]?.getD 0 = x at *
  have m1 : pw (64 * (X.length - 1)) * pw b ≤ pw (64 * (X.length - 1)) * x := Int.mul_le_mul_of_nonneg_left b0 (by omega)
  have m2 : pw (64 * (X.length - 1)) * (x + 1) ≤ pw (64 * (X.length - 1)) * pw (b + 1) := Int.mul_le_mul_of_nonneg_left (by omega) (by omega)
  rw [Int.mul_add, Int.mul_one] at m2
  have hu := bl_unique (v := val X) (a := 64 * (X.length - 1) + b) (by rw [pw_add]; omega) (by rw [Nat.add_assoc, pw_add]; omega)
  rw [hu]; omega
theorem aux_spec : ∀ (f n : Nat), 0 < n → n < 2 ^ f → ∃ a, Lib.bitLenAux f n = a + 1 ∧ 2 ^ a ≤ n ∧ n < 2 ^ (a + 1)
  | 0, n, h0, h => by simp at h; omega
  | f + 1, n, h0, h => by
    unfold Lib.bitLenAux
    rw [if_neg (by omega)]
    by_cases h1 : n = 1
    · subst h1
      refine ⟨0, ?_, by decide, by decide⟩
      cases f <;> simp [Lib.bitLenAux]
    · obtain ⟨a, e, a0, a1⟩ := aux_spec f (n / 2) (by omega) (by rw [Nat.pow_succ] at h; omega)
      refine ⟨a + 1, by rw [e]; omega, by rw [Nat.pow_succ]; omega, by rw [Nat.pow_succ]; omega⟩
theorem bl_len64 {x : Int} (h0 : 0 ≤ x) (h1 : x < 18446744073709551616) : bl x = Lib.bitLen x.toNat := by
  obtain ⟨n, rfl⟩ := Int.eq_ofNat_of_zero_le h0
  by_cases hz : n = 0
  · subst hz; rfl
  · obtain ⟨a, e, a0, a1⟩ := aux_spec 64 n (by omega) (by omega)
    have p1 : pw a = ((2 ^ a : Nat) : Int) := by unfold pw; simp
    have p2 : pw (a + 1) = ((2 ^ (a + 1) : Nat) : Int) := by unfold pw; simp
    rw [bl_unique (v := (n : Int)) (a := a) (by rw [p1]; omega) (by rw [p2]; omega)]
    show _ = ((Lib.bitLenAux 64 n : Nat) : Int)
    rw [e]; omega
theorem nbits (A : Option Addr) (n c : Nat) (xs : List Int) (w : World) (h : Arr w A n c xs) (hn : n ≤ 17592186044416) :
    Calls Tryz.prog 98 #[.slice A n c] w fun e w' => e = .returned (.int .i64 (bl (val xs))) ∧ w = w' := by
  have T := Lib.hid (trim A n c xs w h)
  have hx := h.trim
  have hv := h.val_nonneg
  have hlen := wd_len h.wf
  rw [h.len] at hlen
  by_cases h0 : val xs = 0
  · have e : (wd (val xs)).length = 0 := by rw [h0, wd_zero (Int.le_refl _)]; rfl
    have HB := Lib.hid (show bl (val xs) = 0 by rw [h0]; rfl)
    clear h0 hx
    rw [e] at T hlen
    clear e
    go_enter Tryz.func98, Tryz.ntmps98
    go_wp2_with fail
    refine T.out.mono ?_; rintro e w' ⟨rfl, rfl⟩
    go_wp2_with fail
    go_ret
    exact ⟨by rw [HB.out]; rfl, rfl⟩
  · have hpos : 0 < (wd (val xs)).length := List.length_pos_iff.2 (wd_ne_nil (by omega))
    have hb := bl_words hx.wf (top_wd _ hv) hpos
    rw [val_wd _ hv] at hb
    have HB := Lib.hid hb
    clear hb
    generalize wd (val xs) = X at *
    have hl0 : ((X.length : Int) == 0) = false := beq_eq_false_iff_ne.2 (by omega)
    obtain ⟨b, o, rfl, hlt, hc⟩ := hx.mem hpos
    have k1 := hc (X.length - 1) (by omega)
    have x1 := hx.words (X.length - 1)
    rw [List.getD_eq_getElem?_getD] at x1
    have L := len64 (X[X.length - 1]?.getD 0) w x1.1 x1.2
    have HL := Lib.hid L
    have hbb := bl_len64 x1.1 x1.2
    have hb64 := bl_lt (v := X[X.length - 1]?.getD 0) (a := 64) x1.1 (by rw [← B_pw, B_eq]; exact x1.2)
    have hb0 := bl_nonneg (X[X.length - 1]?.getD 0)
    rw [← hbb] at HL
    have HBB := Lib.hid hbb
    clear hc L hbb
    go_enter Tryz.func98, Tryz.ntmps98
    go_wp2_with fail
    refine T.out.mono ?_; rintro e w' ⟨rfl, rfl⟩
    go_wp2_with fail
    refine HL.out.mono ?_; rintro e w' ⟨rfl, rfl⟩
    go_wp2_with fail
    go_ret
    refine ⟨?_, rfl⟩
    rw [HB.out]; rfl
end Go.Proofs.YteffemhapnbaeaaGreatDoor
