/- The document's rounding: Top, grid, Tiny, choose, Over. -/
import Derived.Deep.RegionHeld3
import Derived.Test.YtlmojkknlkfloaaDoorRdC
import Derived.Test.YtlmojkknlkfloaaDoorMH
import Derived.Test.YtlmojkknlkfloaaDoorMI
import Derived.Test.YtlmojkknlkfloaaDoorMD
namespace Go.Proofs.YtlmojkknlkfloaaDoor
open Go.RowKit Num
set_option linter.unusedSimpArgs false
set_option linter.unusedVariables false
set_option maxRecDepth 100000

theorem rtop04 (neg : Bool) (A : Option Addr) (n c : Nat) (xs : List Int) (e : Int) (w : World) (h : Arr w A n c xs) (hn : n ≤ 1000000) (he0 : -1000000 ≤ e) (he1 : e ≤ 1000000) :
    Calls Tryd.prog 111 #[.agg #[.bool neg, .slice A n c, .int .i64 e]] w fun r w' => r = .returned (.int .i64 (bl (val xs) + e)) ∧ Below w.heap.size w w' := by
  have bx := box_new w #[.bool neg, .slice A n c, .int .i64 e] 24
  obtain ⟨k0, k1, k2, f0, f1, f2⟩ := bx.cell3
  have b0 := below_alloc (below_self w) (.cells #[.bool neg, .slice A n c, .int .i64 e] 24)
  have hb0 := bl_nonneg (val xs)
  have hb1 := bl_lt (v := val xs) (a := 64 * n) h.val_nonneg (by rw [← B_pow_pw, ← h.len]; exact val_lt h.wf)
  have hq : ∀ q : Int, 0 ≤ q → q ≤ 64000000 → IntKind.i64.wrap (q + e) = q + e := fun q h0 h1 => by rw [IntKind.wrap_i64]; omega
  have hqq := hq (bl (val xs)) hb0 (by omega)
  have H := h.below b0
  generalize hW : w.alloc (.cells #[.bool neg, .slice A n c, .int .i64 e] 24) = W at *
  have NB : ∀ w1, Below W.heap.size W w1 → Calls Tryd.prog 110 #[.slice A n c] w1 fun r w5 => r = .returned (.int .i64 (bl (val xs))) ∧ Below W.heap.size W w5 := by
    intro w1 hb
    refine (rbits A n c xs w1 (H.below hb) (by omega)).mono ?_
    rintro r w5 ⟨rfl, hb5⟩
    exact ⟨rfl, below_on hb hb5⟩
  have NB := Lib.hid NB
  have KS := Lib.hid (fun w1 (hb : Below W.heap.size W w1) => (bx.later hb).cell3)
  generalize bl (val xs) = q at *
  clear hq bx H h
  have HW := Lib.hid hW
  clear hW
  go_enter Tryd.func111, Tryd.ntmps111
  go_wp2_with fail
  rw [HW.out]
  go_region_held3 (fun w' => (w'.cell? ⟨w.heap.size, 0, none⟩ = some (.bool neg) ∧ w'.cell? ⟨w.heap.size, 1, none⟩ = some (.slice A n c) ∧ w'.cell? ⟨w.heap.size, 2, none⟩ = some (.int .i64 e) ∧ w'.frozen? ⟨w.heap.size, 0, none⟩ = false ∧ w'.frozen? ⟨w.heap.size, 1, none⟩ = false ∧ w'.frozen? ⟨w.heap.size, 2, none⟩ = false)) (first | exact KS.out _ ((by repeat (first | with_reducible assumption | with_reducible exact below_self _ | with_reducible refine below_drewN ?_ _ | with_reducible apply Below.drew | with_reducible refine below_alloc ?_ _)))) (first | (go_at_call 110; refine (NB.out _ ?_).mono ?_; (repeat (first | with_reducible assumption | with_reducible exact below_self _ | with_reducible refine below_drewN ?_ _ | with_reducible apply Below.drew | with_reducible refine below_alloc ?_ _)); rintro r w5 ⟨rfl, hb5⟩))
  go_wp2_with fail
  go_ret
  exact ⟨rfl, below_on b0 ((by repeat (first | with_reducible assumption | with_reducible exact below_self _ | with_reducible refine below_drewN ?_ _ | with_reducible apply Below.drew | with_reducible refine below_alloc ?_ _)))⟩
theorem rgrid (neg : Bool) (A : Option Addr) (n c : Nat) (xs : List Int) (e : Int) (bd : Bool) (w : World) (h : Arr w A n c xs) (hn : n ≤ 1000000) (he0 : -1000000 ≤ e) (he1 : e ≤ 1000000) :
    Calls Tryd.prog 64 #[.agg #[.bool neg, .slice A n c, .int .i64 e], .bool bd] w fun r w' => r = .returned (.int .i64 (if bd then gridE (val xs) e else bl (val xs) + e - 53)) ∧ Below w.heap.size w w' := by
  have bx := box_new w #[.bool neg, .slice A n c, .int .i64 e] 24
  obtain ⟨k0, k1, k2, f0, f1, f2⟩ := bx.cell3
  have b0 := below_alloc (below_self w) (.cells #[.bool neg, .slice A n c, .int .i64 e] 24)
  have hb0 := bl_nonneg (val xs)
  have hb1 := bl_lt (v := val xs) (a := 64 * n) h.val_nonneg (by rw [← B_pow_pw, ← h.len]; exact val_lt h.wf)
  have T := Lib.hid (rtop04 neg A n c xs e _ (h.below b0) hn he0 he1)
  have hg : gridE (val xs) e = max (bl (val xs) + e - 53) (-1074) := rfl
  rw [hg]
  have t0 : -2000000 ≤ bl (val xs) + e := by omega
  have t1 : bl (val xs) + e ≤ 100000000 := by omega
  generalize bl (val xs) + e = t at *
  cases bd
  all_goals
    go_enter Tryd.func64, Tryd.ntmps64
    go_wp2_with fail
    refine T.out.mono ?_
    rintro r w2 ⟨rfl, hb2⟩
    go_wp2_with fail
    go_ret
    exact ⟨rfl, below_on b0 hb2⟩
theorem rtiny (neg : Bool) (A : Option Addr) (n c : Nat) (xs : List Int) (e : Int) (w : World) (h : Arr w A n c xs) (hp : plainB neg xs e = true) :
    Calls Tryd.prog 69 #[.agg #[.bool neg, .slice A n c, .int .i64 e]] w fun r w' => r = .returned (.bool (tinyB (val xs) e)) ∧ Below w.heap.size w w' := by
  have bx := box_new w #[.bool neg, .slice A n c, .int .i64 e] 24
  obtain ⟨k0, k1, k2, f0, f1, f2⟩ := bx.cell3
  have b0 := below_alloc (below_self w) (.cells #[.bool neg, .slice A n c, .int .i64 e] 24)
  by_cases h0 : n = 0
  · have hz : val xs = 0 := by rw [List.length_eq_zero_iff.1 (h.len.trans h0)]; rfl
    have ht : tinyB (val xs) e = false := by unfold tinyB; rw [hz]; rfl
    rw [ht]
    subst h0
    clear hz ht
    go_enter Tryd.func69, Tryd.ntmps69
    go_wp2_with fail
    go_ret
    exact ⟨rfl, (by repeat (first | with_reducible assumption | with_reducible exact below_self _ | with_reducible refine below_drewN ?_ _ | with_reducible apply Below.drew | with_reducible refine below_alloc ?_ _))⟩
  · obtain ⟨v0, v1, n1, e0, e1, q0, q1, -⟩ := plain_facts h hp h0
    rw [tinyB_pos v0]
    have T := Lib.hid (rtop04 neg A n c xs e _ (h.below b0) (by omega) (by omega) (by omega))
    generalize bl (val xs) + e = t at *
    have d0 : decide ((n : Int) > 0) = true := by simp; omega
    have d1 : decide (0 < n) = true := by simp; omega
    generalize hz : decide (t ≤ -1022) = bz
    go_enter Tryd.func69, Tryd.ntmps69
    go_wp2_with fail
    refine T.out.mono ?_
    rintro r w2 ⟨rfl, hb2⟩
    have b2 := below_on b0 hb2
    go_wp2_with fail
    go_ret
    exact ⟨rfl, b2⟩
theorem units_is {neg : Bool} {v e E mode : Int} {k : Nat} (hk : E - e = (k : Int)) (hk0 : 0 < k) : unitsI neg v e E mode = v / pw k + (if moreB neg v k mode then 1 else 0) := by
  unfold unitsI
  rw [if_neg (by omega), hk, Int.toNat_natCast]; rfl
set_option maxHeartbeats 4000000 in
theorem rchoose (neg : Bool) (A : Option Addr) (n c : Nat) (xs : List Int) (e E mode : Int) (w : World) (h : Arr w A n c xs) (hn : n ≤ 100000) (ho : val xs % 2 = 1) (e0 : -1000000 ≤ e) (e1 : e ≤ 1000000) (E0 : -1000000 ≤ E) (E1 : E ≤ 1000000) (d0 : E - e ≤ 1000000) (d1 : e - E ≤ 1000000) :
    Calls Tryd.prog 65 #[.agg #[.bool neg, .slice A n c, .int .i64 e], .int .i64 E, .int .i64 mode] w fun r w' => ∃ A' n' c', r = .returned (.slice A' n' c') ∧ Arr w' A' n' c' (wd (unitsI neg (val xs) e E mode)) ∧ Below w.heap.size w w' := by
  have hv := h.val_nonneg
  have hxl := h.len
  have b0 := below_alloc (below_self w) (.cells #[.bool neg, .slice A n c, .int .i64 e] 24)
  have bx := box_new w #[.bool neg, .slice A n c, .int .i64 e] 24
  obtain ⟨k0, k1, k2, f0, f1, f2⟩ := bx.cell3
  by_cases hc : E ≤ e
  · have hu : unitsI neg (val xs) e E mode = val xs * 2 ^ (e - E).toNat := by unfold unitsI; rw [if_pos hc]
    rw [hu]
    have SH := rshl A n c xs (e - E) _ (h.below b0) (by omega) (by omega) (by omega)
    rw [shlI_eq (by omega) (by omega)] at SH
    have d3 : decide (e ≥ E) = true := decide_eq_true hc
    have d4 : decide (E ≤ e) = true := decide_eq_true hc
    have SH := Lib.hid SH
    clear hv hu
    go_enter Tryd.func65, Tryd.ntmps65
    go_wp2_with fail
    refine SH.out.mono ?_
    rintro r w5 ⟨A5, n5, c5, rfl, h5, hb5⟩
    go_wp2_with fail
    go_ret
    exact ⟨A5, n5, c5, rfl, h5, below_on b0 hb5⟩
  · have d3 : decide (e ≥ E) = false := decide_eq_false hc
    have d4 : decide (E ≤ e) = false := decide_eq_false hc
    obtain ⟨k, hk⟩ : ∃ k : Nat, E - e = (k : Int) := ⟨(E - e).toNat, by omega⟩
    have hk0 : 0 < k := by omega
    have hmk : min (k : Int) 1048576 = (k : Int) := by omega
    rw [units_is hk hk0, ← more_eq hk0 ho]
    obtain ⟨c1, c2⟩ := cmp_half hk0 ho
    have hq0 : 0 ≤ val xs / pw k := Int.ediv_nonneg hv (Int.le_of_lt (pw_pos k))
    have lq : (wd (val xs / pw k)).length ≤ 100000 := by
      have h1 := wd_len h.wf
      have := wd_length_le hq0 (Int.lt_of_le_of_lt (Int.ediv_le_self _ hv) (lt_pow_of_wd_length hv (k := (wd (val xs)).length) (Nat.le_refl _)))
      omega
    have hqk : val xs / pw k * pw k ≤ val xs := Int.ediv_mul_le _ (Int.ne_of_gt (pw_pos k))
    have hqk0 : 0 ≤ val xs / pw k * pw k := Int.mul_nonneg hq0 (Int.le_of_lt (pw_pos k))
    have lqk : (wd (val xs / pw k * pw k)).length ≤ 100000 := by
      have h1 := wd_len h.wf
      have := wd_length_le hqk0 (Int.lt_of_le_of_lt hqk (lt_pow_of_wd_length hv (k := (wd (val xs)).length) (Nat.le_refl _)))
      omega
    have ll : (wd (val xs - val xs / pw k * pw k)).length ≤ 100000 := by
      have h1 := wd_len h.wf
      have := wd_length_le (n := val xs - val xs / pw k * pw k) (by omega) (Int.lt_of_le_of_lt (show _ ≤ val xs by omega) (lt_pow_of_wd_length hv (k := (wd (val xs)).length) (Nat.le_refl _)))
      omega
    have lh : (wd (pw (k - 1))).length ≤ 100000 := by
      refine wd_length_le (Int.le_of_lt (pw_pos _)) ?_
      rw [B_pow_pw]
      exact pw_lt_iff.2 (by omega)
    have vh := val_wd _ (Int.le_of_lt (pw_pos (k - 1)))
    have vl := val_wd (val xs - val xs / pw k * pw k) (by omega)
    have vqk := val_wd _ hqk0
    have vq := val_wd _ hq0
    have SR := fun w' (hb : Below w.heap.size w w') => rshr A n c xs (min (k : Int) 1048576) w' (h.below hb) (by omega) (by omega) (by omega)
    rw [shrI_eq (by omega) (by omega), show (min (k : Int) 1048576).toNat = k by omega] at SR
    have SR : Hid (∀ w', Below w.heap.size w w' → Calls Tryd.prog 113 #[.slice A n c, .int .i64 (min (k : Int) 1048576)] w' fun r w5 => ∃ A' n' c', r = .returned (.slice A' n' c') ∧ Arr w5 A' n' c' (wd (val xs / pw k)) ∧ Below w'.heap.size w' w5) := SR
    have SL : ∀ w2 A2 n2 c2 (ha : Arr w2 A2 n2 c2 (wd (val xs / pw k))) w1, Below w2.heap.size w2 w1 → Calls Tryd.prog 112 #[.slice A2 n2 c2, .int .i64 (min (k : Int) 1048576)] w1 fun r w5 => ∃ A5 n5 c5, r = .returned (.slice A5 n5 c5) ∧ Arr w5 A5 n5 c5 (wd (val xs / pw k * pw k)) ∧ Below w2.heap.size w2 w5 := by
      intro w2 A2 n2 c2 ha w1 hb
      have S := rshl A2 n2 c2 _ (min (k : Int) 1048576) w1 (ha.below hb) (by rw [← ha.len]; omega) (by omega) (by omega)
      rw [shlI_eq (by omega) (by omega), show (min (k : Int) 1048576).toNat = k by omega, vq] at S
      refine S.mono ?_
      rintro r w5 ⟨A5, n5, c5, rfl, h5, hb5⟩
      exact ⟨A5, n5, c5, rfl, h5, below_on hb hb5⟩
    have SB : ∀ w2 A5 n5 c5 w1, Arr w1 A5 n5 c5 (wd (val xs / pw k * pw k)) → Below w2.heap.size w2 w1 → Below w.heap.size w w1 → Calls Tryd.prog 114 #[.slice A n c, .slice A5 n5 c5] w1 fun r w6 => ∃ A6 n6 c6, r = .returned (.tuple #[.slice A6 n6 c6, .bool true]) ∧ Arr w6 A6 n6 c6 (wd (val xs - val xs / pw k * pw k)) ∧ Below w2.heap.size w2 w6 := by
      intro w2 A5 n5 c5 w1 h5 hb hb'
      have S := rsub A A5 n c n5 c5 xs _ w1 (h.below hb') h5 (by omega) (by rw [← h5.len]; omega)
      unfold RetS at S
      rw [vqk, if_pos hqk, decide_eq_true hqk] at S
      refine S.mono ?_
      rintro r w6 ⟨A6, n6, c6, rfl, h6, hb6⟩
      exact ⟨A6, n6, c6, rfl, h6.arr, below_on hb hb6⟩
    have SH : ∀ w1 A1, Arr w1 A1 1 1 [1] → Calls Tryd.prog 112 #[.slice A1 1 1, .int .i64 ((k : Int) - 1)] w1 fun r w5 => ∃ A5 n5 c5, r = .returned (.slice A5 n5 c5) ∧ Arr w5 A5 n5 c5 (wd (pw (k - 1))) ∧ Below w1.heap.size w1 w5 := by
      intro w1 A1 h1
      have S := rshl A1 1 1 [1] ((k : Int) - 1) w1 h1 (by omega) (by omega) (by omega)
      rw [shlI_eq (by omega) (by omega), show ((k : Int) - 1).toNat = k - 1 by omega, val_one, Int.one_mul] at S
      exact S
    have SC : ∀ w1 A5 n5 c5 A6 n6 c6, Arr w1 A5 n5 c5 (wd (val xs - val xs / pw k * pw k)) → Arr w1 A6 n6 c6 (wd (pw (k - 1))) → Calls Tryd.prog 115 #[.slice A5 n5 c5, .slice A6 n6 c6] w1 fun r w5 => r = .returned (.int .i64 (cmpI (val xs - val xs / pw k * pw k) (pw (k - 1)))) ∧ Below w1.heap.size w1 w5 := by
      intro w1 A5 n5 c5 A6 n6 c6 h5 h6
      have S := rcmp A5 A6 n5 c5 n6 c6 _ _ w1 h5 h6 (by rw [← h5.len]; omega) (by rw [← h6.len]; omega)
      rw [vl, vh] at S
      exact S
    have hmore : moreR neg (val xs) k mode = if mode = 0 then decide (0 < cmpI (val xs - val xs / pw k * pw k) (pw (k - 1))) || (decide (cmpI (val xs - val xs / pw k * pw k) (pw (k - 1)) = 0) && decide (val xs / pw k % 2 = 1))
      else if mode = 2 then !neg else if mode = 3 then neg else if mode = 4 then decide (0 ≤ cmpI (val xs - val xs / pw k * pw k) (pw (k - 1))) else false := rfl
    have VQ : Hid (val (wd (val xs / pw k)) = val xs / pw k) := vq
    have hcr : cmpI (val xs - val xs / pw k * pw k) (pw (k - 1)) = -1 ∨ cmpI (val xs - val xs / pw k * pw k) (pw (k - 1)) = 0 ∨ cmpI (val xs - val xs / pw k * pw k) (pw (k - 1)) = 1 := by
      unfold cmpI
      split
      · simp
      · split <;> simp
    generalize moreR neg (val xs) k mode = more at *
    generalize cmpI (val xs - val xs / pw k * pw k) (pw (k - 1)) = hc at *
    generalize hql : val xs - val xs / pw k * pw k = left at *
    generalize hqq : val xs / pw k * pw k = qk at *
    generalize hqp : val xs / pw k = q at *
    generalize hpp : pw (k - 1) = ph at *
    obtain ⟨R, hR⟩ : ∃ R, R = q + (if more = true then 1 else 0) := ⟨_, rfl⟩
    rw [← hR]
    have SR := Lib.hid SR
    have SL := Lib.hid SL
    have SB := Lib.hid SB
    have SH := Lib.hid SH
    have SC := Lib.hid SC
    have HMK := Lib.hid hmk
    clear c1 c2 vq vqk vl vh lh hmk hqk hqk0 lqk ll ho hpp hqp hqq hql hv
    have hm1 : more = true → R = q + 1 := fun h => by rw [hR, h]; rfl
    have hm0 : more = false → R = q := fun h => by rw [hR, h]; exact Int.add_zero q
    have M1 := Lib.hid hm1
    have M0 := Lib.hid hm0
    have HM := Lib.hid hmore
    clear hR hm1 hm0 hmore
    by_cases m0 : mode = 0
    · subst m0
      rcases hcr with rfl | rfl | rfl
      · obtain rfl := M0.out (by rw [HM.out]; rfl)
        clear M1 M0 HM
        (go_enter Tryd.func65, Tryd.ntmps65; go_wp2_with fail; refine (SR.out _ b0).mono ?_; rintro r w2 ⟨A2, n2, c2, rfl, h2, hb2⟩; have l2 := h2.len; (have b0 := below_on b0 hb2; have bx := bx.later hb2; (clear k0 k1 k2 f0 f1 f2; obtain ⟨k0, k1, k2, f0, f1, f2⟩ := bx.cell3); clear hb2); have SL2 := Lib.hid (SL.out w2 A2 n2 c2 h2); have SB2 := Lib.hid (fun A5 n5 c5 w1 h5 (hb : Below w2.heap.size w2 w1) => SB.out w2 A5 n5 c5 w1 h5 hb (below_on b0 hb)); have KS := Lib.hid (fun w1 (hb : Below w2.heap.size w2 w1) => (bx.later hb).cell3); go_wp2_with fail; go_region_held3 (fun w' => (w'.cell? ⟨w.heap.size, 0, none⟩ = some (.bool neg) ∧ w'.cell? ⟨w.heap.size, 1, none⟩ = some (.slice A n c) ∧ w'.cell? ⟨w.heap.size, 2, none⟩ = some (.int .i64 e) ∧ w'.frozen? ⟨w.heap.size, 0, none⟩ = false ∧ w'.frozen? ⟨w.heap.size, 1, none⟩ = false ∧ w'.frozen? ⟨w.heap.size, 2, none⟩ = false)) (first | exact KS.out _ ((by repeat (first | with_reducible assumption | with_reducible exact below_self _ | with_reducible refine below_drewN ?_ _ | with_reducible apply Below.drew | with_reducible refine below_alloc ?_ _)))) (first | (go_at_call 112; refine (SL2.out _ ?_).mono ?_; (repeat (first | with_reducible assumption | with_reducible exact below_self _ | with_reducible refine below_drewN ?_ _ | with_reducible apply Below.drew | with_reducible refine below_alloc ?_ _)); rintro r w5 ⟨A5, n5, c5, rfl, h5, hb5⟩) | (go_at_call 114; refine (SB2.out _ _ _ _ (h5.below ((by repeat (first | with_reducible assumption | with_reducible exact below_self _ | with_reducible refine below_drewN ?_ _ | with_reducible apply Below.drew | with_reducible refine below_alloc ?_ _)))) ?_).mono ?_; (repeat (first | with_reducible assumption | with_reducible exact below_self _ | with_reducible refine below_drewN ?_ _ | with_reducible apply Below.drew | with_reducible refine below_alloc ?_ _)); rintro r w6 ⟨A6, n6, c6, rfl, h6, hb6⟩)); clear SL2 SB2 KS; have h2 := h2.below hb6; (have b0 := below_on b0 hb6; have bx := bx.later hb6; (clear k0 k1 k2 f0 f1 f2; obtain ⟨k0, k1, k2, f0, f1, f2⟩ := bx.cell3); clear hb6); go_wp2_with fail; have hb67 := below_alloc (below_self w6) (.cells #[.int .u64 1] 27); have h6 := h6.below hb67; have h2 := h2.below hb67; have h1 := arr_one (w := w6) rfl 1 (by decide) (by decide); (have b0 := below_on b0 hb67; have bx := bx.later hb67; (clear k0 k1 k2 f0 f1 f2; obtain ⟨k0, k1, k2, f0, f1, f2⟩ := bx.cell3); clear hb67); refine (SH.out _ _ h1).mono ?_; rintro r w7 ⟨A7, n7, c7, rfl, h7, hb7⟩; have h6 := h6.below hb7; have h2 := h2.below hb7; (have b0 := below_on b0 hb7; have bx := bx.later hb7; (clear k0 k1 k2 f0 f1 f2; obtain ⟨k0, k1, k2, f0, f1, f2⟩ := bx.cell3); clear hb7); go_wp2_with fail; refine (SC.out _ _ _ _ _ _ _ h6 h7).mono ?_; rintro r w8 ⟨rfl, hb8⟩; have h2 := h2.below hb8; (have b0 := below_on b0 hb8; have bx := bx.later hb8; (clear k0 k1 k2 f0 f1 f2; obtain ⟨k0, k1, k2, f0, f1, f2⟩ := bx.cell3); clear hb8); clear h6 h7 h1 SH SC SR SL SB)
        (go_wp2_with fail; go_ret; exact ⟨_, _, _, rfl, h2, b0⟩)
      · have hq2 : (q % 2 = 1 → R = q + 1) ∧ (q % 2 = 0 → R = q) := by
          refine ⟨fun h => M1.out (by rw [HM.out]; simp [h]), fun h => M0.out (by rw [HM.out]; simp [h])⟩
        have HQ2 := Lib.hid hq2
        clear M1 M0 HM hq2
        (go_enter Tryd.func65, Tryd.ntmps65; go_wp2_with fail; refine (SR.out _ b0).mono ?_; rintro r w2 ⟨A2, n2, c2, rfl, h2, hb2⟩; have l2 := h2.len; (have b0 := below_on b0 hb2; have bx := bx.later hb2; (clear k0 k1 k2 f0 f1 f2; obtain ⟨k0, k1, k2, f0, f1, f2⟩ := bx.cell3); clear hb2); have SL2 := Lib.hid (SL.out w2 A2 n2 c2 h2); have SB2 := Lib.hid (fun A5 n5 c5 w1 h5 (hb : Below w2.heap.size w2 w1) => SB.out w2 A5 n5 c5 w1 h5 hb (below_on b0 hb)); have KS := Lib.hid (fun w1 (hb : Below w2.heap.size w2 w1) => (bx.later hb).cell3); go_wp2_with fail; go_region_held3 (fun w' => (w'.cell? ⟨w.heap.size, 0, none⟩ = some (.bool neg) ∧ w'.cell? ⟨w.heap.size, 1, none⟩ = some (.slice A n c) ∧ w'.cell? ⟨w.heap.size, 2, none⟩ = some (.int .i64 e) ∧ w'.frozen? ⟨w.heap.size, 0, none⟩ = false ∧ w'.frozen? ⟨w.heap.size, 1, none⟩ = false ∧ w'.frozen? ⟨w.heap.size, 2, none⟩ = false)) (first | exact KS.out _ ((by repeat (first | with_reducible assumption | with_reducible exact below_self _ | with_reducible refine below_drewN ?_ _ | with_reducible apply Below.drew | with_reducible refine below_alloc ?_ _)))) (first | (go_at_call 112; refine (SL2.out _ ?_).mono ?_; (repeat (first | with_reducible assumption | with_reducible exact below_self _ | with_reducible refine below_drewN ?_ _ | with_reducible apply Below.drew | with_reducible refine below_alloc ?_ _)); rintro r w5 ⟨A5, n5, c5, rfl, h5, hb5⟩) | (go_at_call 114; refine (SB2.out _ _ _ _ (h5.below ((by repeat (first | with_reducible assumption | with_reducible exact below_self _ | with_reducible refine below_drewN ?_ _ | with_reducible apply Below.drew | with_reducible refine below_alloc ?_ _)))) ?_).mono ?_; (repeat (first | with_reducible assumption | with_reducible exact below_self _ | with_reducible refine below_drewN ?_ _ | with_reducible apply Below.drew | with_reducible refine below_alloc ?_ _)); rintro r w6 ⟨A6, n6, c6, rfl, h6, hb6⟩)); clear SL2 SB2 KS; have h2 := h2.below hb6; (have b0 := below_on b0 hb6; have bx := bx.later hb6; (clear k0 k1 k2 f0 f1 f2; obtain ⟨k0, k1, k2, f0, f1, f2⟩ := bx.cell3); clear hb6); go_wp2_with fail; have hb67 := below_alloc (below_self w6) (.cells #[.int .u64 1] 27); have h6 := h6.below hb67; have h2 := h2.below hb67; have h1 := arr_one (w := w6) rfl 1 (by decide) (by decide); (have b0 := below_on b0 hb67; have bx := bx.later hb67; (clear k0 k1 k2 f0 f1 f2; obtain ⟨k0, k1, k2, f0, f1, f2⟩ := bx.cell3); clear hb67); refine (SH.out _ _ h1).mono ?_; rintro r w7 ⟨A7, n7, c7, rfl, h7, hb7⟩; have h6 := h6.below hb7; have h2 := h2.below hb7; (have b0 := below_on b0 hb7; have bx := bx.later hb7; (clear k0 k1 k2 f0 f1 f2; obtain ⟨k0, k1, k2, f0, f1, f2⟩ := bx.cell3); clear hb7); go_wp2_with fail; refine (SC.out _ _ _ _ _ _ _ h6 h7).mono ?_; rintro r w8 ⟨rfl, hb8⟩; have h2 := h2.below hb8; (have b0 := below_on b0 hb8; have bx := bx.later hb8; (clear k0 k1 k2 f0 f1 f2; obtain ⟨k0, k1, k2, f0, f1, f2⟩ := bx.cell3); clear hb8); clear h6 h7 h1 SH SC SR SL SB)
        have hD := bit_cases h2 hq0
        rcases hD with ⟨rfl, pd⟩ | ⟨ld, bd, od, zd, rfl, ltd, md, -, ad, zd0, zd1⟩
        · obtain rfl := HQ2.out.2 pd
          clear pd HQ2
          (go_wp2_with fail; go_ret; exact ⟨_, _, _, rfl, h2, b0⟩)
        · rcases Int.emod_two_eq q with pd | pd
          · obtain rfl := HQ2.out.2 pd
            rw [pd] at ad
            have ad2 : (zd % 2 == 1) = false := by simp [ad]
            have ad3 : decide (zd % 2 = 1) = false := by simp [ad]
            clear pd HQ2
            (go_wp2_with fail; go_ret; exact ⟨_, _, _, rfl, h2, b0⟩)
          · obtain rfl := HQ2.out.1 pd
            rw [pd] at ad
            have ad2 : (zd % 2 == 1) = true := by simp [ad]
            have ad3 : decide (zd % 2 = 1) = true := by simp [ad]
            clear pd HQ2
            (go_wp2_with fail; have A1 := radd _ (some ⟨w8.heap.size, 0, none⟩) _ _ 1 1 _ [1] _ (h2.below (below_alloc (below_self w8) (.cells #[.int .u64 1] 27))) (arr_one (w := w8) rfl 1 (by decide) (by decide)) (by omega) (by decide); rw [VQ.out, val_one] at A1; refine A1.mono ?_; rintro r w9 ⟨A9, n9, c9, rfl, h9, hb9⟩; have hb29 := below_on (below_alloc (below_self w8) (.cells #[.int .u64 1] 27)) hb9; go_wp2_with fail; go_ret; exact ⟨A9, n9, c9, rfl, h9.arr, below_on b0 hb29⟩)
      · obtain rfl := M1.out (by rw [HM.out]; rfl)
        clear M1 M0 HM
        (go_enter Tryd.func65, Tryd.ntmps65; go_wp2_with fail; refine (SR.out _ b0).mono ?_; rintro r w2 ⟨A2, n2, c2, rfl, h2, hb2⟩; have l2 := h2.len; (have b0 := below_on b0 hb2; have bx := bx.later hb2; (clear k0 k1 k2 f0 f1 f2; obtain ⟨k0, k1, k2, f0, f1, f2⟩ := bx.cell3); clear hb2); have SL2 := Lib.hid (SL.out w2 A2 n2 c2 h2); have SB2 := Lib.hid (fun A5 n5 c5 w1 h5 (hb : Below w2.heap.size w2 w1) => SB.out w2 A5 n5 c5 w1 h5 hb (below_on b0 hb)); have KS := Lib.hid (fun w1 (hb : Below w2.heap.size w2 w1) => (bx.later hb).cell3); go_wp2_with fail; go_region_held3 (fun w' => (w'.cell? ⟨w.heap.size, 0, none⟩ = some (.bool neg) ∧ w'.cell? ⟨w.heap.size, 1, none⟩ = some (.slice A n c) ∧ w'.cell? ⟨w.heap.size, 2, none⟩ = some (.int .i64 e) ∧ w'.frozen? ⟨w.heap.size, 0, none⟩ = false ∧ w'.frozen? ⟨w.heap.size, 1, none⟩ = false ∧ w'.frozen? ⟨w.heap.size, 2, none⟩ = false)) (first | exact KS.out _ ((by repeat (first | with_reducible assumption | with_reducible exact below_self _ | with_reducible refine below_drewN ?_ _ | with_reducible apply Below.drew | with_reducible refine below_alloc ?_ _)))) (first | (go_at_call 112; refine (SL2.out _ ?_).mono ?_; (repeat (first | with_reducible assumption | with_reducible exact below_self _ | with_reducible refine below_drewN ?_ _ | with_reducible apply Below.drew | with_reducible refine below_alloc ?_ _)); rintro r w5 ⟨A5, n5, c5, rfl, h5, hb5⟩) | (go_at_call 114; refine (SB2.out _ _ _ _ (h5.below ((by repeat (first | with_reducible assumption | with_reducible exact below_self _ | with_reducible refine below_drewN ?_ _ | with_reducible apply Below.drew | with_reducible refine below_alloc ?_ _)))) ?_).mono ?_; (repeat (first | with_reducible assumption | with_reducible exact below_self _ | with_reducible refine below_drewN ?_ _ | with_reducible apply Below.drew | with_reducible refine below_alloc ?_ _)); rintro r w6 ⟨A6, n6, c6, rfl, h6, hb6⟩)); clear SL2 SB2 KS; have h2 := h2.below hb6; (have b0 := below_on b0 hb6; have bx := bx.later hb6; (clear k0 k1 k2 f0 f1 f2; obtain ⟨k0, k1, k2, f0, f1, f2⟩ := bx.cell3); clear hb6); go_wp2_with fail; have hb67 := below_alloc (below_self w6) (.cells #[.int .u64 1] 27); have h6 := h6.below hb67; have h2 := h2.below hb67; have h1 := arr_one (w := w6) rfl 1 (by decide) (by decide); (have b0 := below_on b0 hb67; have bx := bx.later hb67; (clear k0 k1 k2 f0 f1 f2; obtain ⟨k0, k1, k2, f0, f1, f2⟩ := bx.cell3); clear hb67); refine (SH.out _ _ h1).mono ?_; rintro r w7 ⟨A7, n7, c7, rfl, h7, hb7⟩; have h6 := h6.below hb7; have h2 := h2.below hb7; (have b0 := below_on b0 hb7; have bx := bx.later hb7; (clear k0 k1 k2 f0 f1 f2; obtain ⟨k0, k1, k2, f0, f1, f2⟩ := bx.cell3); clear hb7); go_wp2_with fail; refine (SC.out _ _ _ _ _ _ _ h6 h7).mono ?_; rintro r w8 ⟨rfl, hb8⟩; have h2 := h2.below hb8; (have b0 := below_on b0 hb8; have bx := bx.later hb8; (clear k0 k1 k2 f0 f1 f2; obtain ⟨k0, k1, k2, f0, f1, f2⟩ := bx.cell3); clear hb8); clear h6 h7 h1 SH SC SR SL SB)
        (go_wp2_with fail; have A1 := radd _ (some ⟨w8.heap.size, 0, none⟩) _ _ 1 1 _ [1] _ (h2.below (below_alloc (below_self w8) (.cells #[.int .u64 1] 27))) (arr_one (w := w8) rfl 1 (by decide) (by decide)) (by omega) (by decide); rw [VQ.out, val_one] at A1; refine A1.mono ?_; rintro r w9 ⟨A9, n9, c9, rfl, h9, hb9⟩; have hb29 := below_on (below_alloc (below_self w8) (.cells #[.int .u64 1] 27)) hb9; go_wp2_with fail; go_ret; exact ⟨A9, n9, c9, rfl, h9.arr, below_on b0 hb29⟩)
    · by_cases m2 : mode = 2
      · subst m2
        cases neg
        · obtain rfl := M1.out (by rw [HM.out]; rfl)
          clear M1 M0 HM
          (go_enter Tryd.func65, Tryd.ntmps65; go_wp2_with fail; refine (SR.out _ b0).mono ?_; rintro r w2 ⟨A2, n2, c2, rfl, h2, hb2⟩; have l2 := h2.len; (have b0 := below_on b0 hb2; have bx := bx.later hb2; (clear k0 k1 k2 f0 f1 f2; obtain ⟨k0, k1, k2, f0, f1, f2⟩ := bx.cell3); clear hb2); have SL2 := Lib.hid (SL.out w2 A2 n2 c2 h2); have SB2 := Lib.hid (fun A5 n5 c5 w1 h5 (hb : Below w2.heap.size w2 w1) => SB.out w2 A5 n5 c5 w1 h5 hb (below_on b0 hb)); have KS := Lib.hid (fun w1 (hb : Below w2.heap.size w2 w1) => (bx.later hb).cell3); go_wp2_with fail; go_region_held3 (fun w' => (w'.cell? ⟨w.heap.size, 0, none⟩ = some (.bool false) ∧ w'.cell? ⟨w.heap.size, 1, none⟩ = some (.slice A n c) ∧ w'.cell? ⟨w.heap.size, 2, none⟩ = some (.int .i64 e) ∧ w'.frozen? ⟨w.heap.size, 0, none⟩ = false ∧ w'.frozen? ⟨w.heap.size, 1, none⟩ = false ∧ w'.frozen? ⟨w.heap.size, 2, none⟩ = false)) (first | exact KS.out _ ((by repeat (first | with_reducible assumption | with_reducible exact below_self _ | with_reducible refine below_drewN ?_ _ | with_reducible apply Below.drew | with_reducible refine below_alloc ?_ _)))) (first | (go_at_call 112; refine (SL2.out _ ?_).mono ?_; (repeat (first | with_reducible assumption | with_reducible exact below_self _ | with_reducible refine below_drewN ?_ _ | with_reducible apply Below.drew | with_reducible refine below_alloc ?_ _)); rintro r w5 ⟨A5, n5, c5, rfl, h5, hb5⟩) | (go_at_call 114; refine (SB2.out _ _ _ _ (h5.below ((by repeat (first | with_reducible assumption | with_reducible exact below_self _ | with_reducible refine below_drewN ?_ _ | with_reducible apply Below.drew | with_reducible refine below_alloc ?_ _)))) ?_).mono ?_; (repeat (first | with_reducible assumption | with_reducible exact below_self _ | with_reducible refine below_drewN ?_ _ | with_reducible apply Below.drew | with_reducible refine below_alloc ?_ _)); rintro r w6 ⟨A6, n6, c6, rfl, h6, hb6⟩)); clear SL2 SB2 KS; have h2 := h2.below hb6; (have b0 := below_on b0 hb6; have bx := bx.later hb6; (clear k0 k1 k2 f0 f1 f2; obtain ⟨k0, k1, k2, f0, f1, f2⟩ := bx.cell3); clear hb6); go_wp2_with fail; have hb67 := below_alloc (below_self w6) (.cells #[.int .u64 1] 27); have h6 := h6.below hb67; have h2 := h2.below hb67; have h1 := arr_one (w := w6) rfl 1 (by decide) (by decide); (have b0 := below_on b0 hb67; have bx := bx.later hb67; (clear k0 k1 k2 f0 f1 f2; obtain ⟨k0, k1, k2, f0, f1, f2⟩ := bx.cell3); clear hb67); refine (SH.out _ _ h1).mono ?_; rintro r w7 ⟨A7, n7, c7, rfl, h7, hb7⟩; have h6 := h6.below hb7; have h2 := h2.below hb7; (have b0 := below_on b0 hb7; have bx := bx.later hb7; (clear k0 k1 k2 f0 f1 f2; obtain ⟨k0, k1, k2, f0, f1, f2⟩ := bx.cell3); clear hb7); go_wp2_with fail; refine (SC.out _ _ _ _ _ _ _ h6 h7).mono ?_; rintro r w8 ⟨rfl, hb8⟩; have h2 := h2.below hb8; (have b0 := below_on b0 hb8; have bx := bx.later hb8; (clear k0 k1 k2 f0 f1 f2; obtain ⟨k0, k1, k2, f0, f1, f2⟩ := bx.cell3); clear hb8); clear h6 h7 h1 SH SC SR SL SB)
          (go_wp2_with fail; have A1 := radd _ (some ⟨w8.heap.size, 0, none⟩) _ _ 1 1 _ [1] _ (h2.below (below_alloc (below_self w8) (.cells #[.int .u64 1] 27))) (arr_one (w := w8) rfl 1 (by decide) (by decide)) (by omega) (by decide); rw [VQ.out, val_one] at A1; refine A1.mono ?_; rintro r w9 ⟨A9, n9, c9, rfl, h9, hb9⟩; have hb29 := below_on (below_alloc (below_self w8) (.cells #[.int .u64 1] 27)) hb9; go_wp2_with fail; go_ret; exact ⟨A9, n9, c9, rfl, h9.arr, below_on b0 hb29⟩)
        · obtain rfl := M0.out (by rw [HM.out]; rfl)
          clear M1 M0 HM
          (go_enter Tryd.func65, Tryd.ntmps65; go_wp2_with fail; refine (SR.out _ b0).mono ?_; rintro r w2 ⟨A2, n2, c2, rfl, h2, hb2⟩; have l2 := h2.len; (have b0 := below_on b0 hb2; have bx := bx.later hb2; (clear k0 k1 k2 f0 f1 f2; obtain ⟨k0, k1, k2, f0, f1, f2⟩ := bx.cell3); clear hb2); have SL2 := Lib.hid (SL.out w2 A2 n2 c2 h2); have SB2 := Lib.hid (fun A5 n5 c5 w1 h5 (hb : Below w2.heap.size w2 w1) => SB.out w2 A5 n5 c5 w1 h5 hb (below_on b0 hb)); have KS := Lib.hid (fun w1 (hb : Below w2.heap.size w2 w1) => (bx.later hb).cell3); go_wp2_with fail; go_region_held3 (fun w' => (w'.cell? ⟨w.heap.size, 0, none⟩ = some (.bool true) ∧ w'.cell? ⟨w.heap.size, 1, none⟩ = some (.slice A n c) ∧ w'.cell? ⟨w.heap.size, 2, none⟩ = some (.int .i64 e) ∧ w'.frozen? ⟨w.heap.size, 0, none⟩ = false ∧ w'.frozen? ⟨w.heap.size, 1, none⟩ = false ∧ w'.frozen? ⟨w.heap.size, 2, none⟩ = false)) (first | exact KS.out _ ((by repeat (first | with_reducible assumption | with_reducible exact below_self _ | with_reducible refine below_drewN ?_ _ | with_reducible apply Below.drew | with_reducible refine below_alloc ?_ _)))) (first | (go_at_call 112; refine (SL2.out _ ?_).mono ?_; (repeat (first | with_reducible assumption | with_reducible exact below_self _ | with_reducible refine below_drewN ?_ _ | with_reducible apply Below.drew | with_reducible refine below_alloc ?_ _)); rintro r w5 ⟨A5, n5, c5, rfl, h5, hb5⟩) | (go_at_call 114; refine (SB2.out _ _ _ _ (h5.below ((by repeat (first | with_reducible assumption | with_reducible exact below_self _ | with_reducible refine below_drewN ?_ _ | with_reducible apply Below.drew | with_reducible refine below_alloc ?_ _)))) ?_).mono ?_; (repeat (first | with_reducible assumption | with_reducible exact below_self _ | with_reducible refine below_drewN ?_ _ | with_reducible apply Below.drew | with_reducible refine below_alloc ?_ _)); rintro r w6 ⟨A6, n6, c6, rfl, h6, hb6⟩)); clear SL2 SB2 KS; have h2 := h2.below hb6; (have b0 := below_on b0 hb6; have bx := bx.later hb6; (clear k0 k1 k2 f0 f1 f2; obtain ⟨k0, k1, k2, f0, f1, f2⟩ := bx.cell3); clear hb6); go_wp2_with fail; have hb67 := below_alloc (below_self w6) (.cells #[.int .u64 1] 27); have h6 := h6.below hb67; have h2 := h2.below hb67; have h1 := arr_one (w := w6) rfl 1 (by decide) (by decide); (have b0 := below_on b0 hb67; have bx := bx.later hb67; (clear k0 k1 k2 f0 f1 f2; obtain ⟨k0, k1, k2, f0, f1, f2⟩ := bx.cell3); clear hb67); refine (SH.out _ _ h1).mono ?_; rintro r w7 ⟨A7, n7, c7, rfl, h7, hb7⟩; have h6 := h6.below hb7; have h2 := h2.below hb7; (have b0 := below_on b0 hb7; have bx := bx.later hb7; (clear k0 k1 k2 f0 f1 f2; obtain ⟨k0, k1, k2, f0, f1, f2⟩ := bx.cell3); clear hb7); go_wp2_with fail; refine (SC.out _ _ _ _ _ _ _ h6 h7).mono ?_; rintro r w8 ⟨rfl, hb8⟩; have h2 := h2.below hb8; (have b0 := below_on b0 hb8; have bx := bx.later hb8; (clear k0 k1 k2 f0 f1 f2; obtain ⟨k0, k1, k2, f0, f1, f2⟩ := bx.cell3); clear hb8); clear h6 h7 h1 SH SC SR SL SB)
          (go_wp2_with fail; go_ret; exact ⟨_, _, _, rfl, h2, b0⟩)
      · by_cases m3 : mode = 3
        · subst m3
          cases neg
          · obtain rfl := M0.out (by rw [HM.out]; rfl)
            clear M1 M0 HM
            (go_enter Tryd.func65, Tryd.ntmps65; go_wp2_with fail; refine (SR.out _ b0).mono ?_; rintro r w2 ⟨A2, n2, c2, rfl, h2, hb2⟩; have l2 := h2.len; (have b0 := below_on b0 hb2; have bx := bx.later hb2; (clear k0 k1 k2 f0 f1 f2; obtain ⟨k0, k1, k2, f0, f1, f2⟩ := bx.cell3); clear hb2); have SL2 := Lib.hid (SL.out w2 A2 n2 c2 h2); have SB2 := Lib.hid (fun A5 n5 c5 w1 h5 (hb : Below w2.heap.size w2 w1) => SB.out w2 A5 n5 c5 w1 h5 hb (below_on b0 hb)); have KS := Lib.hid (fun w1 (hb : Below w2.heap.size w2 w1) => (bx.later hb).cell3); go_wp2_with fail; go_region_held3 (fun w' => (w'.cell? ⟨w.heap.size, 0, none⟩ = some (.bool false) ∧ w'.cell? ⟨w.heap.size, 1, none⟩ = some (.slice A n c) ∧ w'.cell? ⟨w.heap.size, 2, none⟩ = some (.int .i64 e) ∧ w'.frozen? ⟨w.heap.size, 0, none⟩ = false ∧ w'.frozen? ⟨w.heap.size, 1, none⟩ = false ∧ w'.frozen? ⟨w.heap.size, 2, none⟩ = false)) (first | exact KS.out _ ((by repeat (first | with_reducible assumption | with_reducible exact below_self _ | with_reducible refine below_drewN ?_ _ | with_reducible apply Below.drew | with_reducible refine below_alloc ?_ _)))) (first | (go_at_call 112; refine (SL2.out _ ?_).mono ?_; (repeat (first | with_reducible assumption | with_reducible exact below_self _ | with_reducible refine below_drewN ?_ _ | with_reducible apply Below.drew | with_reducible refine below_alloc ?_ _)); rintro r w5 ⟨A5, n5, c5, rfl, h5, hb5⟩) | (go_at_call 114; refine (SB2.out _ _ _ _ (h5.below ((by repeat (first | with_reducible assumption | with_reducible exact below_self _ | with_reducible refine below_drewN ?_ _ | with_reducible apply Below.drew | with_reducible refine below_alloc ?_ _)))) ?_).mono ?_; (repeat (first | with_reducible assumption | with_reducible exact below_self _ | with_reducible refine below_drewN ?_ _ | with_reducible apply Below.drew | with_reducible refine below_alloc ?_ _)); rintro r w6 ⟨A6, n6, c6, rfl, h6, hb6⟩)); clear SL2 SB2 KS; have h2 := h2.below hb6; (have b0 := below_on b0 hb6; have bx := bx.later hb6; (clear k0 k1 k2 f0 f1 f2; obtain ⟨k0, k1, k2, f0, f1, f2⟩ := bx.cell3); clear hb6); go_wp2_with fail; have hb67 := below_alloc (below_self w6) (.cells #[.int .u64 1] 27); have h6 := h6.below hb67; have h2 := h2.below hb67; have h1 := arr_one (w := w6) rfl 1 (by decide) (by decide); (have b0 := below_on b0 hb67; have bx := bx.later hb67; (clear k0 k1 k2 f0 f1 f2; obtain ⟨k0, k1, k2, f0, f1, f2⟩ := bx.cell3); clear hb67); refine (SH.out _ _ h1).mono ?_; rintro r w7 ⟨A7, n7, c7, rfl, h7, hb7⟩; have h6 := h6.below hb7; have h2 := h2.below hb7; (have b0 := below_on b0 hb7; have bx := bx.later hb7; (clear k0 k1 k2 f0 f1 f2; obtain ⟨k0, k1, k2, f0, f1, f2⟩ := bx.cell3); clear hb7); go_wp2_with fail; refine (SC.out _ _ _ _ _ _ _ h6 h7).mono ?_; rintro r w8 ⟨rfl, hb8⟩; have h2 := h2.below hb8; (have b0 := below_on b0 hb8; have bx := bx.later hb8; (clear k0 k1 k2 f0 f1 f2; obtain ⟨k0, k1, k2, f0, f1, f2⟩ := bx.cell3); clear hb8); clear h6 h7 h1 SH SC SR SL SB)
            (go_wp2_with fail; go_ret; exact ⟨_, _, _, rfl, h2, b0⟩)
          · obtain rfl := M1.out (by rw [HM.out]; rfl)
            clear M1 M0 HM
            (go_enter Tryd.func65, Tryd.ntmps65; go_wp2_with fail; refine (SR.out _ b0).mono ?_; rintro r w2 ⟨A2, n2, c2, rfl, h2, hb2⟩; have l2 := h2.len; (have b0 := below_on b0 hb2; have bx := bx.later hb2; (clear k0 k1 k2 f0 f1 f2; obtain ⟨k0, k1, k2, f0, f1, f2⟩ := bx.cell3); clear hb2); have SL2 := Lib.hid (SL.out w2 A2 n2 c2 h2); have SB2 := Lib.hid (fun A5 n5 c5 w1 h5 (hb : Below w2.heap.size w2 w1) => SB.out w2 A5 n5 c5 w1 h5 hb (below_on b0 hb)); have KS := Lib.hid (fun w1 (hb : Below w2.heap.size w2 w1) => (bx.later hb).cell3); go_wp2_with fail; go_region_held3 (fun w' => (w'.cell? ⟨w.heap.size, 0, none⟩ = some (.bool true) ∧ w'.cell? ⟨w.heap.size, 1, none⟩ = some (.slice A n c) ∧ w'.cell? ⟨w.heap.size, 2, none⟩ = some (.int .i64 e) ∧ w'.frozen? ⟨w.heap.size, 0, none⟩ = false ∧ w'.frozen? ⟨w.heap.size, 1, none⟩ = false ∧ w'.frozen? ⟨w.heap.size, 2, none⟩ = false)) (first | exact KS.out _ ((by repeat (first | with_reducible assumption | with_reducible exact below_self _ | with_reducible refine below_drewN ?_ _ | with_reducible apply Below.drew | with_reducible refine below_alloc ?_ _)))) (first | (go_at_call 112; refine (SL2.out _ ?_).mono ?_; (repeat (first | with_reducible assumption | with_reducible exact below_self _ | with_reducible refine below_drewN ?_ _ | with_reducible apply Below.drew | with_reducible refine below_alloc ?_ _)); rintro r w5 ⟨A5, n5, c5, rfl, h5, hb5⟩) | (go_at_call 114; refine (SB2.out _ _ _ _ (h5.below ((by repeat (first | with_reducible assumption | with_reducible exact below_self _ | with_reducible refine below_drewN ?_ _ | with_reducible apply Below.drew | with_reducible refine below_alloc ?_ _)))) ?_).mono ?_; (repeat (first | with_reducible assumption | with_reducible exact below_self _ | with_reducible refine below_drewN ?_ _ | with_reducible apply Below.drew | with_reducible refine below_alloc ?_ _)); rintro r w6 ⟨A6, n6, c6, rfl, h6, hb6⟩)); clear SL2 SB2 KS; have h2 := h2.below hb6; (have b0 := below_on b0 hb6; have bx := bx.later hb6; (clear k0 k1 k2 f0 f1 f2; obtain ⟨k0, k1, k2, f0, f1, f2⟩ := bx.cell3); clear hb6); go_wp2_with fail; have hb67 := below_alloc (below_self w6) (.cells #[.int .u64 1] 27); have h6 := h6.below hb67; have h2 := h2.below hb67; have h1 := arr_one (w := w6) rfl 1 (by decide) (by decide); (have b0 := below_on b0 hb67; have bx := bx.later hb67; (clear k0 k1 k2 f0 f1 f2; obtain ⟨k0, k1, k2, f0, f1, f2⟩ := bx.cell3); clear hb67); refine (SH.out _ _ h1).mono ?_; rintro r w7 ⟨A7, n7, c7, rfl, h7, hb7⟩; have h6 := h6.below hb7; have h2 := h2.below hb7; (have b0 := below_on b0 hb7; have bx := bx.later hb7; (clear k0 k1 k2 f0 f1 f2; obtain ⟨k0, k1, k2, f0, f1, f2⟩ := bx.cell3); clear hb7); go_wp2_with fail; refine (SC.out _ _ _ _ _ _ _ h6 h7).mono ?_; rintro r w8 ⟨rfl, hb8⟩; have h2 := h2.below hb8; (have b0 := below_on b0 hb8; have bx := bx.later hb8; (clear k0 k1 k2 f0 f1 f2; obtain ⟨k0, k1, k2, f0, f1, f2⟩ := bx.cell3); clear hb8); clear h6 h7 h1 SH SC SR SL SB)
            (go_wp2_with fail; have A1 := radd _ (some ⟨w8.heap.size, 0, none⟩) _ _ 1 1 _ [1] _ (h2.below (below_alloc (below_self w8) (.cells #[.int .u64 1] 27))) (arr_one (w := w8) rfl 1 (by decide) (by decide)) (by omega) (by decide); rw [VQ.out, val_one] at A1; refine A1.mono ?_; rintro r w9 ⟨A9, n9, c9, rfl, h9, hb9⟩; have hb29 := below_on (below_alloc (below_self w8) (.cells #[.int .u64 1] 27)) hb9; go_wp2_with fail; go_ret; exact ⟨A9, n9, c9, rfl, h9.arr, below_on b0 hb29⟩)
        · by_cases m4 : mode = 4
          · subst m4
            rcases hcr with rfl | rfl | rfl
            · obtain rfl := M0.out (by rw [HM.out]; rfl)
              clear M1 M0 HM
              (go_enter Tryd.func65, Tryd.ntmps65; go_wp2_with fail; refine (SR.out _ b0).mono ?_; rintro r w2 ⟨A2, n2, c2, rfl, h2, hb2⟩; have l2 := h2.len; (have b0 := below_on b0 hb2; have bx := bx.later hb2; (clear k0 k1 k2 f0 f1 f2; obtain ⟨k0, k1, k2, f0, f1, f2⟩ := bx.cell3); clear hb2); have SL2 := Lib.hid (SL.out w2 A2 n2 c2 h2); have SB2 := Lib.hid (fun A5 n5 c5 w1 h5 (hb : Below w2.heap.size w2 w1) => SB.out w2 A5 n5 c5 w1 h5 hb (below_on b0 hb)); have KS := Lib.hid (fun w1 (hb : Below w2.heap.size w2 w1) => (bx.later hb).cell3); go_wp2_with fail; go_region_held3 (fun w' => (w'.cell? ⟨w.heap.size, 0, none⟩ = some (.bool neg) ∧ w'.cell? ⟨w.heap.size, 1, none⟩ = some (.slice A n c) ∧ w'.cell? ⟨w.heap.size, 2, none⟩ = some (.int .i64 e) ∧ w'.frozen? ⟨w.heap.size, 0, none⟩ = false ∧ w'.frozen? ⟨w.heap.size, 1, none⟩ = false ∧ w'.frozen? ⟨w.heap.size, 2, none⟩ = false)) (first | exact KS.out _ ((by repeat (first | with_reducible assumption | with_reducible exact below_self _ | with_reducible refine below_drewN ?_ _ | with_reducible apply Below.drew | with_reducible refine below_alloc ?_ _)))) (first | (go_at_call 112; refine (SL2.out _ ?_).mono ?_; (repeat (first | with_reducible assumption | with_reducible exact below_self _ | with_reducible refine below_drewN ?_ _ | with_reducible apply Below.drew | with_reducible refine below_alloc ?_ _)); rintro r w5 ⟨A5, n5, c5, rfl, h5, hb5⟩) | (go_at_call 114; refine (SB2.out _ _ _ _ (h5.below ((by repeat (first | with_reducible assumption | with_reducible exact below_self _ | with_reducible refine below_drewN ?_ _ | with_reducible apply Below.drew | with_reducible refine below_alloc ?_ _)))) ?_).mono ?_; (repeat (first | with_reducible assumption | with_reducible exact below_self _ | with_reducible refine below_drewN ?_ _ | with_reducible apply Below.drew | with_reducible refine below_alloc ?_ _)); rintro r w6 ⟨A6, n6, c6, rfl, h6, hb6⟩)); clear SL2 SB2 KS; have h2 := h2.below hb6; (have b0 := below_on b0 hb6; have bx := bx.later hb6; (clear k0 k1 k2 f0 f1 f2; obtain ⟨k0, k1, k2, f0, f1, f2⟩ := bx.cell3); clear hb6); go_wp2_with fail; have hb67 := below_alloc (below_self w6) (.cells #[.int .u64 1] 27); have h6 := h6.below hb67; have h2 := h2.below hb67; have h1 := arr_one (w := w6) rfl 1 (by decide) (by decide); (have b0 := below_on b0 hb67; have bx := bx.later hb67; (clear k0 k1 k2 f0 f1 f2; obtain ⟨k0, k1, k2, f0, f1, f2⟩ := bx.cell3); clear hb67); refine (SH.out _ _ h1).mono ?_; rintro r w7 ⟨A7, n7, c7, rfl, h7, hb7⟩; have h6 := h6.below hb7; have h2 := h2.below hb7; (have b0 := below_on b0 hb7; have bx := bx.later hb7; (clear k0 k1 k2 f0 f1 f2; obtain ⟨k0, k1, k2, f0, f1, f2⟩ := bx.cell3); clear hb7); go_wp2_with fail; refine (SC.out _ _ _ _ _ _ _ h6 h7).mono ?_; rintro r w8 ⟨rfl, hb8⟩; have h2 := h2.below hb8; (have b0 := below_on b0 hb8; have bx := bx.later hb8; (clear k0 k1 k2 f0 f1 f2; obtain ⟨k0, k1, k2, f0, f1, f2⟩ := bx.cell3); clear hb8); clear h6 h7 h1 SH SC SR SL SB)
              (go_wp2_with fail; go_ret; exact ⟨_, _, _, rfl, h2, b0⟩)
            · obtain rfl := M1.out (by rw [HM.out]; rfl)
              clear M1 M0 HM
              (go_enter Tryd.func65, Tryd.ntmps65; go_wp2_with fail; refine (SR.out _ b0).mono ?_; rintro r w2 ⟨A2, n2, c2, rfl, h2, hb2⟩; have l2 := h2.len; (have b0 := below_on b0 hb2; have bx := bx.later hb2; (clear k0 k1 k2 f0 f1 f2; obtain ⟨k0, k1, k2, f0, f1, f2⟩ := bx.cell3); clear hb2); have SL2 := Lib.hid (SL.out w2 A2 n2 c2 h2); have SB2 := Lib.hid (fun A5 n5 c5 w1 h5 (hb : Below w2.heap.size w2 w1) => SB.out w2 A5 n5 c5 w1 h5 hb (below_on b0 hb)); have KS := Lib.hid (fun w1 (hb : Below w2.heap.size w2 w1) => (bx.later hb).cell3); go_wp2_with fail; go_region_held3 (fun w' => (w'.cell? ⟨w.heap.size, 0, none⟩ = some (.bool neg) ∧ w'.cell? ⟨w.heap.size, 1, none⟩ = some (.slice A n c) ∧ w'.cell? ⟨w.heap.size, 2, none⟩ = some (.int .i64 e) ∧ w'.frozen? ⟨w.heap.size, 0, none⟩ = false ∧ w'.frozen? ⟨w.heap.size, 1, none⟩ = false ∧ w'.frozen? ⟨w.heap.size, 2, none⟩ = false)) (first | exact KS.out _ ((by repeat (first | with_reducible assumption | with_reducible exact below_self _ | with_reducible refine below_drewN ?_ _ | with_reducible apply Below.drew | with_reducible refine below_alloc ?_ _)))) (first | (go_at_call 112; refine (SL2.out _ ?_).mono ?_; (repeat (first | with_reducible assumption | with_reducible exact below_self _ | with_reducible refine below_drewN ?_ _ | with_reducible apply Below.drew | with_reducible refine below_alloc ?_ _)); rintro r w5 ⟨A5, n5, c5, rfl, h5, hb5⟩) | (go_at_call 114; refine (SB2.out _ _ _ _ (h5.below ((by repeat (first | with_reducible assumption | with_reducible exact below_self _ | with_reducible refine below_drewN ?_ _ | with_reducible apply Below.drew | with_reducible refine below_alloc ?_ _)))) ?_).mono ?_; (repeat (first | with_reducible assumption | with_reducible exact below_self _ | with_reducible refine below_drewN ?_ _ | with_reducible apply Below.drew | with_reducible refine below_alloc ?_ _)); rintro r w6 ⟨A6, n6, c6, rfl, h6, hb6⟩)); clear SL2 SB2 KS; have h2 := h2.below hb6; (have b0 := below_on b0 hb6; have bx := bx.later hb6; (clear k0 k1 k2 f0 f1 f2; obtain ⟨k0, k1, k2, f0, f1, f2⟩ := bx.cell3); clear hb6); go_wp2_with fail; have hb67 := below_alloc (below_self w6) (.cells #[.int .u64 1] 27); have h6 := h6.below hb67; have h2 := h2.below hb67; have h1 := arr_one (w := w6) rfl 1 (by decide) (by decide); (have b0 := below_on b0 hb67; have bx := bx.later hb67; (clear k0 k1 k2 f0 f1 f2; obtain ⟨k0, k1, k2, f0, f1, f2⟩ := bx.cell3); clear hb67); refine (SH.out _ _ h1).mono ?_; rintro r w7 ⟨A7, n7, c7, rfl, h7, hb7⟩; have h6 := h6.below hb7; have h2 := h2.below hb7; (have b0 := below_on b0 hb7; have bx := bx.later hb7; (clear k0 k1 k2 f0 f1 f2; obtain ⟨k0, k1, k2, f0, f1, f2⟩ := bx.cell3); clear hb7); go_wp2_with fail; refine (SC.out _ _ _ _ _ _ _ h6 h7).mono ?_; rintro r w8 ⟨rfl, hb8⟩; have h2 := h2.below hb8; (have b0 := below_on b0 hb8; have bx := bx.later hb8; (clear k0 k1 k2 f0 f1 f2; obtain ⟨k0, k1, k2, f0, f1, f2⟩ := bx.cell3); clear hb8); clear h6 h7 h1 SH SC SR SL SB)
              (go_wp2_with fail; have A1 := radd _ (some ⟨w8.heap.size, 0, none⟩) _ _ 1 1 _ [1] _ (h2.below (below_alloc (below_self w8) (.cells #[.int .u64 1] 27))) (arr_one (w := w8) rfl 1 (by decide) (by decide)) (by omega) (by decide); rw [VQ.out, val_one] at A1; refine A1.mono ?_; rintro r w9 ⟨A9, n9, c9, rfl, h9, hb9⟩; have hb29 := below_on (below_alloc (below_self w8) (.cells #[.int .u64 1] 27)) hb9; go_wp2_with fail; go_ret; exact ⟨A9, n9, c9, rfl, h9.arr, below_on b0 hb29⟩)
            · obtain rfl := M1.out (by rw [HM.out]; rfl)
              clear M1 M0 HM
              (go_enter Tryd.func65, Tryd.ntmps65; go_wp2_with fail; refine (SR.out _ b0).mono ?_; rintro r w2 ⟨A2, n2, c2, rfl, h2, hb2⟩; have l2 := h2.len; (have b0 := below_on b0 hb2; have bx := bx.later hb2; (clear k0 k1 k2 f0 f1 f2; obtain ⟨k0, k1, k2, f0, f1, f2⟩ := bx.cell3); clear hb2); have SL2 := Lib.hid (SL.out w2 A2 n2 c2 h2); have SB2 := Lib.hid (fun A5 n5 c5 w1 h5 (hb : Below w2.heap.size w2 w1) => SB.out w2 A5 n5 c5 w1 h5 hb (below_on b0 hb)); have KS := Lib.hid (fun w1 (hb : Below w2.heap.size w2 w1) => (bx.later hb).cell3); go_wp2_with fail; go_region_held3 (fun w' => (w'.cell? ⟨w.heap.size, 0, none⟩ = some (.bool neg) ∧ w'.cell? ⟨w.heap.size, 1, none⟩ = some (.slice A n c) ∧ w'.cell? ⟨w.heap.size, 2, none⟩ = some (.int .i64 e) ∧ w'.frozen? ⟨w.heap.size, 0, none⟩ = false ∧ w'.frozen? ⟨w.heap.size, 1, none⟩ = false ∧ w'.frozen? ⟨w.heap.size, 2, none⟩ = false)) (first | exact KS.out _ ((by repeat (first | with_reducible assumption | with_reducible exact below_self _ | with_reducible refine below_drewN ?_ _ | with_reducible apply Below.drew | with_reducible refine below_alloc ?_ _)))) (first | (go_at_call 112; refine (SL2.out _ ?_).mono ?_; (repeat (first | with_reducible assumption | with_reducible exact below_self _ | with_reducible refine below_drewN ?_ _ | with_reducible apply Below.drew | with_reducible refine below_alloc ?_ _)); rintro r w5 ⟨A5, n5, c5, rfl, h5, hb5⟩) | (go_at_call 114; refine (SB2.out _ _ _ _ (h5.below ((by repeat (first | with_reducible assumption | with_reducible exact below_self _ | with_reducible refine below_drewN ?_ _ | with_reducible apply Below.drew | with_reducible refine below_alloc ?_ _)))) ?_).mono ?_; (repeat (first | with_reducible assumption | with_reducible exact below_self _ | with_reducible refine below_drewN ?_ _ | with_reducible apply Below.drew | with_reducible refine below_alloc ?_ _)); rintro r w6 ⟨A6, n6, c6, rfl, h6, hb6⟩)); clear SL2 SB2 KS; have h2 := h2.below hb6; (have b0 := below_on b0 hb6; have bx := bx.later hb6; (clear k0 k1 k2 f0 f1 f2; obtain ⟨k0, k1, k2, f0, f1, f2⟩ := bx.cell3); clear hb6); go_wp2_with fail; have hb67 := below_alloc (below_self w6) (.cells #[.int .u64 1] 27); have h6 := h6.below hb67; have h2 := h2.below hb67; have h1 := arr_one (w := w6) rfl 1 (by decide) (by decide); (have b0 := below_on b0 hb67; have bx := bx.later hb67; (clear k0 k1 k2 f0 f1 f2; obtain ⟨k0, k1, k2, f0, f1, f2⟩ := bx.cell3); clear hb67); refine (SH.out _ _ h1).mono ?_; rintro r w7 ⟨A7, n7, c7, rfl, h7, hb7⟩; have h6 := h6.below hb7; have h2 := h2.below hb7; (have b0 := below_on b0 hb7; have bx := bx.later hb7; (clear k0 k1 k2 f0 f1 f2; obtain ⟨k0, k1, k2, f0, f1, f2⟩ := bx.cell3); clear hb7); go_wp2_with fail; refine (SC.out _ _ _ _ _ _ _ h6 h7).mono ?_; rintro r w8 ⟨rfl, hb8⟩; have h2 := h2.below hb8; (have b0 := below_on b0 hb8; have bx := bx.later hb8; (clear k0 k1 k2 f0 f1 f2; obtain ⟨k0, k1, k2, f0, f1, f2⟩ := bx.cell3); clear hb8); clear h6 h7 h1 SH SC SR SL SB)
              (go_wp2_with fail; have A1 := radd _ (some ⟨w8.heap.size, 0, none⟩) _ _ 1 1 _ [1] _ (h2.below (below_alloc (below_self w8) (.cells #[.int .u64 1] 27))) (arr_one (w := w8) rfl 1 (by decide) (by decide)) (by omega) (by decide); rw [VQ.out, val_one] at A1; refine A1.mono ?_; rintro r w9 ⟨A9, n9, c9, rfl, h9, hb9⟩; have hb29 := below_on (below_alloc (below_self w8) (.cells #[.int .u64 1] 27)) hb9; go_wp2_with fail; go_ret; exact ⟨A9, n9, c9, rfl, h9.arr, below_on b0 hb29⟩)
          · obtain rfl := M0.out (by rw [HM.out, if_neg m0, if_neg m2, if_neg m3, if_neg m4])
            clear M1 M0 HM hcr
            have e0 : (mode == 0) = false := by simp [m0]
            have e2 : (mode == 2) = false := by simp [m2]
            have e3 : (mode == 3) = false := by simp [m3]
            have e4 : (mode == 4) = false := by simp [m4]
            (go_enter Tryd.func65, Tryd.ntmps65; go_wp2_with fail; refine (SR.out _ b0).mono ?_; rintro r w2 ⟨A2, n2, c2, rfl, h2, hb2⟩; have l2 := h2.len; (have b0 := below_on b0 hb2; have bx := bx.later hb2; (clear k0 k1 k2 f0 f1 f2; obtain ⟨k0, k1, k2, f0, f1, f2⟩ := bx.cell3); clear hb2); have SL2 := Lib.hid (SL.out w2 A2 n2 c2 h2); have SB2 := Lib.hid (fun A5 n5 c5 w1 h5 (hb : Below w2.heap.size w2 w1) => SB.out w2 A5 n5 c5 w1 h5 hb (below_on b0 hb)); have KS := Lib.hid (fun w1 (hb : Below w2.heap.size w2 w1) => (bx.later hb).cell3); go_wp2_with fail; go_region_held3 (fun w' => (w'.cell? ⟨w.heap.size, 0, none⟩ = some (.bool neg) ∧ w'.cell? ⟨w.heap.size, 1, none⟩ = some (.slice A n c) ∧ w'.cell? ⟨w.heap.size, 2, none⟩ = some (.int .i64 e) ∧ w'.frozen? ⟨w.heap.size, 0, none⟩ = false ∧ w'.frozen? ⟨w.heap.size, 1, none⟩ = false ∧ w'.frozen? ⟨w.heap.size, 2, none⟩ = false)) (first | exact KS.out _ ((by repeat (first | with_reducible assumption | with_reducible exact below_self _ | with_reducible refine below_drewN ?_ _ | with_reducible apply Below.drew | with_reducible refine below_alloc ?_ _)))) (first | (go_at_call 112; refine (SL2.out _ ?_).mono ?_; (repeat (first | with_reducible assumption | with_reducible exact below_self _ | with_reducible refine below_drewN ?_ _ | with_reducible apply Below.drew | with_reducible refine below_alloc ?_ _)); rintro r w5 ⟨A5, n5, c5, rfl, h5, hb5⟩) | (go_at_call 114; refine (SB2.out _ _ _ _ (h5.below ((by repeat (first | with_reducible assumption | with_reducible exact below_self _ | with_reducible refine below_drewN ?_ _ | with_reducible apply Below.drew | with_reducible refine below_alloc ?_ _)))) ?_).mono ?_; (repeat (first | with_reducible assumption | with_reducible exact below_self _ | with_reducible refine below_drewN ?_ _ | with_reducible apply Below.drew | with_reducible refine below_alloc ?_ _)); rintro r w6 ⟨A6, n6, c6, rfl, h6, hb6⟩)); clear SL2 SB2 KS; have h2 := h2.below hb6; (have b0 := below_on b0 hb6; have bx := bx.later hb6; (clear k0 k1 k2 f0 f1 f2; obtain ⟨k0, k1, k2, f0, f1, f2⟩ := bx.cell3); clear hb6); go_wp2_with fail; have hb67 := below_alloc (below_self w6) (.cells #[.int .u64 1] 27); have h6 := h6.below hb67; have h2 := h2.below hb67; have h1 := arr_one (w := w6) rfl 1 (by decide) (by decide); (have b0 := below_on b0 hb67; have bx := bx.later hb67; (clear k0 k1 k2 f0 f1 f2; obtain ⟨k0, k1, k2, f0, f1, f2⟩ := bx.cell3); clear hb67); refine (SH.out _ _ h1).mono ?_; rintro r w7 ⟨A7, n7, c7, rfl, h7, hb7⟩; have h6 := h6.below hb7; have h2 := h2.below hb7; (have b0 := below_on b0 hb7; have bx := bx.later hb7; (clear k0 k1 k2 f0 f1 f2; obtain ⟨k0, k1, k2, f0, f1, f2⟩ := bx.cell3); clear hb7); go_wp2_with fail; refine (SC.out _ _ _ _ _ _ _ h6 h7).mono ?_; rintro r w8 ⟨rfl, hb8⟩; have h2 := h2.below hb8; (have b0 := below_on b0 hb8; have bx := bx.later hb8; (clear k0 k1 k2 f0 f1 f2; obtain ⟨k0, k1, k2, f0, f1, f2⟩ := bx.cell3); clear hb8); clear h6 h7 h1 SH SC SR SL SB)
            (go_wp2_with fail; go_ret; exact ⟨_, _, _, rfl, h2, b0⟩)
end Go.Proofs.YtlmojkknlkfloaaDoor
