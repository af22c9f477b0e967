/- The walks of nat's first functions. -/
import Derived.Test.YtbfnjjnnlbchgaaDoorMem
import Derived.Test.YtbfnjjnnlbchgaaDoorBits
namespace Go.Proofs.YtbfnjjnnlbchgaaDoor
open Go.RowKit Num
set_option maxRecDepth 100000

theorem trim (A : Option Addr) (n c : Nat) (xs : List Int) (w : World) (h : Arr w A n c xs) :
    Calls Tryd.prog 135 #[.slice A n c] w fun e w' => e = .returned (.slice A (wd (val xs)).length c) ∧ w = w' := by
  have hl := h.len
  have hcap := h.cap
  have hbig := h.big
  go_enter Tryd.func135, Tryd.ntmps135
  go_wp2
  go_loop [0] (fun v => ∃ k : Nat, k ≤ n ∧ v = .slice A k c ∧ val (xs.take k) = val xs) (fun v => match v with | .slice _ k _ => k | _ => 0)
  case atStart => exact ⟨n, Nat.le_refl _, rfl, by rw [← hl, List.take_length]⟩
  case round =>
    obtain ⟨k, hk, rfl, hv⟩ := hrel
    have HV := Lib.hid hv
    have HL := Lib.hid hl
    clear hv hl
    by_cases h0 : 0 < k
    · obtain ⟨b, o, rfl, hlt, hc⟩ := h.mem (by omega)
      have hcell := hc (k - 1) (by omega)
      clear hc
      go_wp2
      · have hz : (xs[k - 1]?.getD 0 == 0) = true := by assumption
        have hz' : xs[k - 1]?.getD 0 = 0 := by simpa using hz
        exact ⟨⟨k - 1, by omega, rfl, trim_go h0 (by rw [HL.out]; exact hk) hz' HV.out⟩, by simp; omega⟩
      · have hz : (xs[k - 1]?.getD 0 == 0) = false := by assumption
        have hz' : xs[k - 1]?.getD 0 ≠ 0 := by simpa using hz
        have e := trim_end h.wf h0 (by rw [HL.out]; exact hk) hz' HV.out
        go_ret
        refine ⟨?_, rfl⟩
        rw [e, List.length_take, HL.out, Nat.min_eq_left hk]
        rfl
    · obtain rfl : k = 0 := by omega
      have e : wd (val xs) = [] := by rw [← HV.out]; exact wd_zero (Int.le_refl _)
      go_wp2
      go_ret
      exact ⟨by first | rfl | (rw [e]; rfl), rfl⟩

theorem cmpI_lt {x y : Int} (h : x < y) : cmpI x y = -1 := by rw [cmpI, if_pos h]
theorem cmpI_eq {x y : Int} (h : x = y) : cmpI x y = 0 := by rw [cmpI, if_neg (by omega), if_pos h]
theorem cmpI_gt {x y : Int} (h : y < x) : cmpI x y = 1 := by rw [cmpI, if_neg (by omega), if_neg (by omega)]
theorem ncmp (A A' : Option Addr) (n c n' c' : Nat) (xs ys : List Int) (w : World) (h : Arr w A n c xs) (h' : Arr w A' n' c' ys) :
    Calls Tryd.prog 89 #[.slice A n c, .slice A' n' c'] w fun e w' => e = .returned (.int .i64 (cmpI (val xs) (val ys))) ∧ Still w w' := by
  have hx := h.trim
  have hy := h'.trim
  have nx := h.val_nonneg
  have ny := h'.val_nonneg
  have bx := hx.cap
  have cx := hx.big
  have by' := hy.cap
  have cy := hy.big
  have wx := hx.wf
  have wy := hy.wf
  by_cases hl : (wd (val xs)).length = (wd (val ys)).length
  · have HL := Lib.hid hl
    have hlb : (((wd (val xs)).length : Int) != ((wd (val ys)).length : Int)) = false := by simp [hl]
    clear hl
    go_enter Tryd.func89, Tryd.ntmps89
    go_wp2_with fail
    refine (trim A n c xs _ h).mono ?_; rintro e w' ⟨rfl, rfl⟩
    go_wp2_with fail
    refine (trim A' n' c' ys _ h').mono ?_; rintro e w' ⟨rfl, rfl⟩
    have e1 := HL.out
    generalize hX : wd (val xs) = X at *
    generalize hY : wd (val ys) = Y at *
    have HX := Lib.hid hX
    have HY := Lib.hid hY
    clear hX hY e1
    go_wp2
    go_loopw [5] (fun v wr => ∃ r : Nat, r ≤ X.length ∧ v = .int .i64 ((r : Int) - 1) ∧ Hid (X.drop r = Y.drop r) ∧ Still w wr) (fun v _ => (intOf v + 1).toNat)
    case atStart => exact ⟨X.length, Nat.le_refl _, rfl, by show _ = _; rw [List.drop_length, HL.out, List.drop_length], Still.refl _⟩
    case round =>
      obtain ⟨r, hr, rfl, hd, ⟨m, rfl⟩⟩ := hrel
      by_cases h0 : 0 < r
      · obtain ⟨b, o, rfl, hlt, hc⟩ := hx.mem (by omega)
        obtain ⟨b', o', rfl, hlt', hc'⟩ := hy.mem (by rw [← HL.out]; omega)
        obtain ⟨q, rfl⟩ : ∃ q, r = q + 1 := ⟨r - 1, by omega⟩
        rw [show (((q + 1 : Nat) : Int) - 1) = (q : Int) from by omega]
        have k1 := hc q (by omega)
        have k2 := hc' q (by rw [← HL.out]; omega)
        have l1 : (q : Int) < X.length := by omega
        have l2 : (q : Int) < Y.length := by have := HL.out; omega
        clear hc hc'
        go_wp2
        go_quiet (fail)
        go_wp2
        · have hne : (X[q]?.getD 0 != Y[q]?.getD 0) = true := by assumption
          have hne' : X[q]?.getD 0 ≠ Y[q]?.getD 0 := by simpa using hne
          go_quiet (fail)
          go_wp2
          · have hlt : X[q]?.getD 0 < Y[q]?.getD 0 := by assumption
            have hv := lt_of_word wx HL.out wy (by omega) hd.out hlt
            rw [← HX.out, ← HY.out, val_wd _ nx, val_wd _ ny] at hv
            have e := cmpI_lt hv
            go_ret
            exact ⟨by rw [e]; rfl, (by repeat (first | exact Still.refl _ | apply Still.drewN | apply Still.drew))⟩
          · have hge : Y[q]?.getD 0 ≤ X[q]?.getD 0 := by first | assumption | exact Int.not_lt.1 (by assumption)
            have hlen := HL.out
            have hv := lt_of_word wy hlen.symm wx (i := q) (by omega) hd.out.symm (by omega)
            rw [← HX.out, ← HY.out, val_wd _ nx, val_wd _ ny] at hv
            have e := cmpI_gt hv
            go_ret
            exact ⟨by rw [e]; rfl, (by repeat (first | exact Still.refl _ | apply Still.drewN | apply Still.drew))⟩
        · have hne : (X[q]?.getD 0 != Y[q]?.getD 0) = false := by assumption
          have hne' : X[q]?.getD 0 = Y[q]?.getD 0 := by simpa using hne
          exact ⟨⟨q, by omega, rfl, drop_same HL.out (by omega) hd.out hne', (by repeat (first | exact Still.refl _ | apply Still.drewN | apply Still.drew))⟩, by simp only [intOf]; omega⟩
      · obtain rfl : r = 0 := by omega
        have hd' : X = Y := hd.out
        have hv : val xs = val ys := by rw [← val_wd _ nx, ← val_wd _ ny, HX.out, HY.out, hd']
        have e := cmpI_eq hv
        have HE := Lib.hid e
        clear hv e hd' hd
        go_wp2
        go_ret
        exact ⟨by rw [HE.out]; rfl, (by repeat (first | exact Still.refl _ | apply Still.drewN | apply Still.drew))⟩
  · have hlb : (((wd (val xs)).length : Int) != ((wd (val ys)).length : Int)) = true := by simp; omega
    by_cases hlt : (wd (val xs)).length < (wd (val ys)).length
    all_goals
      go_enter Tryd.func89, Tryd.ntmps89
      go_wp2_with fail
      refine (trim A n c xs _ h).mono ?_; rintro e w' ⟨rfl, rfl⟩
      go_wp2_with fail
      refine (trim A' n' c' ys _ h').mono ?_; rintro e w' ⟨rfl, rfl⟩
      go_wp2
      go_ret
    · exact ⟨by rw [cmpI_lt (lt_of_len nx hlt)]; rfl, (by repeat (first | exact Still.refl _ | apply Still.drewN | apply Still.drew))⟩
    · exact ⟨by rw [cmpI_gt (lt_of_len ny (by omega))]; rfl, (by repeat (first | exact Still.refl _ | apply Still.drewN | apply Still.drew))⟩

end Go.Proofs.YtbfnjjnnlbchgaaDoor
