/- The document's rounding: Over, Exact. -/
import Derived.OwnWalk
import Derived.Test.YtlmojkknlkfloaaDoorRdD
import Derived.Test.YtlmojkknlkfloaaDoorRdE
import Derived.Test.YtlmojkknlkfloaaDoorMS
import Derived.Test.YtlmojkknlkfloaaDoorMP
namespace Go.Proofs.YtlmojkknlkfloaaDoor
open Go.RowKit Num
set_option linter.unusedSimpArgs false
set_option linter.unusedVariables false
set_option maxRecDepth 100000

theorem rover10 (neg : Bool) (A : Option Addr) (n c : Nat) (xs : List Int) (e mode : Int) (w : World) (h : Arr w A n c xs) (hp : plainB neg xs e = true) :
    Calls Tryd.prog 63 #[.agg #[.bool neg, .slice A n c, .int .i64 e], .int .i64 mode] w fun r w' => r = .returned (.bool (overB neg (val xs) e mode)) ∧ Below w.heap.size w w' := by
  have bx := box_new w #[.bool neg, .slice A n c, .int .i64 e] 24
  obtain ⟨k0, k1, k2, f0, f1, f2⟩ := bx.cell3
  have b0 : Below w.heap.size w (w.alloc (.cells #[.bool neg, .slice A n c, .int .i64 e] 24)) := below_alloc (below_self w) _
  by_cases h0 : n = 0
  · have hz : val xs = 0 := by rw [List.length_eq_zero_iff.1 (h.len.trans h0)]; rfl
    have ht : overB neg (val xs) e mode = false := by unfold overB; rw [hz]; rfl
    rw [ht]
    subst h0
    clear hz ht
    go_enter Tryd.func63, Tryd.ntmps63
    go_wp2_with fail
    go_ret
    exact ⟨rfl, (by repeat (first | with_reducible assumption | with_reducible exact below_self _ | with_reducible refine below_drewN ?_ _ | with_reducible apply Below.drew | with_reducible refine below_alloc ?_ _))⟩
  · obtain ⟨v0, v1, n1, e0, e1, q0, q1, -⟩ := plain_facts h hp h0
    have d0 : ((n : Int) == 0) = false := by simp; omega
    have G := fun w' (hb : Below w.heap.size w w') => rgrid neg A n c xs e false w' (h.below hb) (by omega) (by omega) (by omega)
    simp only [Bool.false_eq_true, if_false] at G
    have RC := fun w' (hb : Below w.heap.size w w') => rchoose neg A n c xs e (bl (val xs) + e - 53) mode w' (h.below hb) (by omega) v1 (by omega) (by omega) (by omega) (by omega) (by omega) (by omega)
    obtain ⟨u0, u1⟩ := units_len (neg := neg) (mode := mode) (e := e) v0 (Int.le_refl (bl (val xs) + e - 53))
    have ho : overB neg (val xs) e mode = decide (1024 < bl (unitsI neg (val xs) e (bl (val xs) + e - 53) mode) + (bl (val xs) + e - 53)) := by
      unfold overB
      have : decide (val xs ≠ 0) = true := decide_eq_true (by omega)
      rw [this, Bool.true_and]
    rw [ho]
    clear ho
    have hv := val_wd _ u0
    have ub := bl_lt (v := unitsI neg (val xs) e (bl (val xs) + e - 53) mode) (a := 64) u0 (by
      have := lt_pow_of_wd_length u0 u1
      rw [Int.pow_succ, Int.pow_zero, Int.one_mul, B_pw] at this; exact this)
    have ub0 := bl_nonneg (unitsI neg (val xs) e (bl (val xs) + e - 53) mode)
    have ht0 : bl (val xs) + e - 53 ≤ 300000 := by omega
    have ht1 : -300000 ≤ bl (val xs) + e - 53 := by omega
    generalize unitsI neg (val xs) e (bl (val xs) + e - 53) mode = q at *
    generalize bl (val xs) + e - 53 = t at *
    have G := Lib.hid G
    have RC := Lib.hid RC
    have HV := Lib.hid hv
    clear hv
    generalize hz : bl q = z at *
    have HZ := Lib.hid hz
    clear hz
    generalize hz : decide (1024 < z + t) = bz
    have hz2 : decide (z + t > 1024) = bz := hz
    go_enter Tryd.func63, Tryd.ntmps63
    go_wp2_with fail
    refine (G.out _ b0).mono ?_
    rintro r w2 ⟨rfl, hb2⟩
    (have b0 := below_on b0 hb2; have bx := bx.later hb2; (clear k0 k1 k2 f0 f1 f2; obtain ⟨k0, k1, k2, f0, f1, f2⟩ := bx.cell3); clear hb2)
    go_wp2_with fail
    refine (RC.out _ b0).mono ?_
    rintro r w4 ⟨A4, n4, c4, rfl, h4, hb4⟩
    have l4 := h4.len
    (have b0 := below_on b0 hb4; have bx := bx.later hb4; (clear k0 k1 k2 f0 f1 f2; obtain ⟨k0, k1, k2, f0, f1, f2⟩ := bx.cell3); clear hb4)
    have NB := rbits A4 n4 c4 _ w4 h4 (by omega)
    rw [HV.out, HZ.out] at NB
    have NB := Lib.hid NB
    go_wp2_with fail
    refine NB.out.mono ?_
    rintro r w5 ⟨rfl, hb5⟩
    go_wp2_with fail
    go_ret
    exact ⟨rfl, below_on b0 hb5⟩
theorem exact_wordR {neg : Bool} {xs : List Int} {e mode : Int} (hv : 0 < val xs) (ho : val xs % 2 = 1) (hp : plainB neg xs e = true) (h : overB neg (val xs) e mode = false) :
    ∃ (D : Dy) (W' cc : Int), mkD neg (unitsI neg (val xs) e (gridE (val xs) e) mode) (gridE (val xs) e) = some D ∧ wordD D.neg (wd D.m) D.e = some W' ∧ 0 ≤ D.m ∧
      (unitsI neg (val xs) e (gridE (val xs) e) mode = 0 → exW neg (val xs) e mode = sg neg) ∧ (unitsI neg (val xs) e (gridE (val xs) e) mode ≠ 0 → exW neg (val xs) e mode = W') ∧
      cmpR D.neg neg (wd D.m) xs D.e e = .tuple #[.int .i64 cc, .bool true] ∧ (cc = 0 ↔ gridE (val xs) e ≤ e) := by
  obtain ⟨g0, g1, g2, g3⟩ := grid_fit hv h
  have hg : bl (val xs) + e - 53 ≤ gridE (val xs) e := by unfold gridE; omega
  obtain ⟨r0, r1, -⟩ := units_range (neg := neg) (mode := mode) hv hg
  have ew : exW neg (val xs) e mode = sg neg + unitsI neg (val xs) e (gridE (val xs) e) mode + (gridE (val xs) e + 1074) * 4503599627370496 := by unfold exW; rw [h, if_neg (by decide)]
  by_cases hq : unitsI neg (val xs) e (gridE (val xs) e) mode = 0
  · have hE : gridE (val xs) e = -1074 := by omega
    refine ⟨Dy.zero, 0, cmpD Dy.zero ⟨neg, val xs, e⟩, by unfold mkD; rw [if_pos hq], ?_, by decide, fun _ => by rw [ew, hq, hE]; omega, fun hh => absurd hq hh, ?_, ?_⟩
    · have : wd Dy.zero.m = [] := wd_zero (Int.le_refl _)
      rw [this]; decide
    · have : wd Dy.zero.m = [] := wd_zero (Int.le_refl _)
      unfold cmpR
      rw [this, hp]
      rfl
    · have := cmp_none (neg := neg) (e := e) hv
      refine ⟨fun hh => absurd hh this, fun hh => ?_⟩
      exfalso
      unfold unitsI at hq
      rw [if_pos hh] at hq
      have : 0 < val xs * 2 ^ (e - gridE (val xs) e).toNat := Int.mul_pos hv (Int.pow_pos (by decide))
      omega
  · obtain ⟨a, u, hs, hu, hp0, ha, hlt, hm, hw⟩ := word_units (by omega : 0 < unitsI neg (val xs) e (gridE (val xs) e) mode) r1 g0 g1 g2 g3
    have hpl := mk_plain r0 (hm neg)
    have hc := cmp_units (u := u) (a := a) hv ho hs
    refine ⟨⟨neg, u, gridE (val xs) e + a⟩, _, cmpD ⟨neg, u, gridE (val xs) e + a⟩ ⟨neg, val xs, e⟩, hm neg, hw neg, by show 0 ≤ u; omega, fun hh => absurd hh hq, fun _ => ew, ?_, hc⟩
    unfold cmpR
    rw [hpl.1, hp, val_wd _ hpl.2]
    rfl
set_option maxHeartbeats 4000000 in
theorem rexact10 (neg : Bool) (A : Option Addr) (n c : Nat) (xs : List Int) (e mode : Int) (w : World) (h : Arr w A n c xs) (hn : n ≤ 1000000) :
    Calls Tryd.prog 13 #[.agg #[.bool neg, .slice A n c, .int .i64 e], .int .i64 mode] w (RetX (exactD neg xs e mode) w) := by
  have b0 : Below w.heap.size w (w.alloc (.cells #[.bool neg, .slice A n c, .int .i64 e] 24)) := below_alloc (below_self w) _
  have bx := box_new w #[.bool neg, .slice A n c, .int .i64 e] 24
  obtain ⟨k0, k1, k2, f0, f1, f2⟩ := bx.cell3
  have PL := fun w' (hb : Below w.heap.size w w') => rplain neg A n c xs e w' (h.below hb) (by omega)
  cases hp : plainB neg xs e
  · rw [hp] at PL
    have PL := Lib.hid PL
    have er : exactD neg xs e mode = none := by unfold exactD; rw [hp]; rfl
    rw [er]
    clear er hp
    (go_enter Tryd.func13, Tryd.ntmps13; go_wp2_with fail; refine (PL.out _ b0).mono ?_; rintro r w2 ⟨rfl, hb2⟩; (have b0 := below_on b0 hb2; have bx := bx.later hb2; (clear k0 k1 k2 f0 f1 f2; obtain ⟨k0, k1, k2, f0, f1, f2⟩ := bx.cell3); clear hb2))
    go_wp2_with fail
    go_ret3
    exact ⟨rfl, b0⟩
  · rw [hp] at PL
    have PL := Lib.hid PL
    by_cases m0 : mode < 0
    · have er : exactD neg xs e mode = none := by unfold exactD; rw [decide_eq_false (p := 0 ≤ mode) (by omega)]; simp
      rw [er]
      have d0 : decide (mode < 0) = true := decide_eq_true m0
      clear er hp
      (go_enter Tryd.func13, Tryd.ntmps13; go_wp2_with fail; refine (PL.out _ b0).mono ?_; rintro r w2 ⟨rfl, hb2⟩; (have b0 := below_on b0 hb2; have bx := bx.later hb2; (clear k0 k1 k2 f0 f1 f2; obtain ⟨k0, k1, k2, f0, f1, f2⟩ := bx.cell3); clear hb2))
      go_wp2_with fail
      go_ret3
      exact ⟨rfl, b0⟩
    · have d0 : decide (mode < 0) = false := decide_eq_false m0
      by_cases m1 : 4 < mode
      · have er : exactD neg xs e mode = none := by unfold exactD; rw [decide_eq_false (p := mode ≤ 4) (by omega)]; simp
        rw [er]
        have d1 : decide (mode > 4) = true := decide_eq_true m1
        have d2 : decide (4 < mode) = true := decide_eq_true m1
        clear er hp
        (go_enter Tryd.func13, Tryd.ntmps13; go_wp2_with fail; refine (PL.out _ b0).mono ?_; rintro r w2 ⟨rfl, hb2⟩; (have b0 := below_on b0 hb2; have bx := bx.later hb2; (clear k0 k1 k2 f0 f1 f2; obtain ⟨k0, k1, k2, f0, f1, f2⟩ := bx.cell3); clear hb2))
        go_wp2_with fail
        go_ret3
        exact ⟨rfl, b0⟩
      · have d1 : decide (mode > 4) = false := decide_eq_false m1
        have d2 : decide (4 < mode) = false := decide_eq_false m1
        have er : exactD neg xs e mode = if xs.length = 0 then some (0, 0) else some (exW neg (val xs) e mode, exF neg (val xs) e mode) := by
          unfold exactD; rw [hp, decide_eq_true (p := 0 ≤ mode) (by omega), decide_eq_true (p := mode ≤ 4) (by omega)]; rfl
        rw [er]
        clear er
        by_cases h0 : n = 0
        · rw [if_pos (h.len.trans h0)]
          subst h0
          clear hp
          (go_enter Tryd.func13, Tryd.ntmps13; go_wp2_with fail; refine (PL.out _ b0).mono ?_; rintro r w2 ⟨rfl, hb2⟩; (have b0 := below_on b0 hb2; have bx := bx.later hb2; (clear k0 k1 k2 f0 f1 f2; obtain ⟨k0, k1, k2, f0, f1, f2⟩ := bx.cell3); clear hb2))
          go_wp2_with fail
          go_ret3
          exact ⟨rfl, b0⟩
        · rw [if_neg (by rw [h.len]; exact h0)]
          obtain ⟨v0, v1, n1, e0, e1, q0, q1, -⟩ := plain_facts h hp h0
          have dn : ((n : Int) == 0) = false := by simp; omega
          have OV := fun w' (hb : Below w.heap.size w w') => rover10 neg A n c xs e mode w' (h.below hb) hp
          cases hov : overB neg (val xs) e mode
          · rw [hov] at OV
            have OV := Lib.hid OV
            obtain ⟨g0, g1, -, -⟩ := grid_fit (mode := mode) v0 hov
            obtain ⟨⟨s, m, f⟩, W', cc, hmk, hwd, hm, hz1, hz2, hcr, hcc⟩ := exact_wordR v0 v1 hp hov
            simp only at hwd hm hcr
            have ef : exF neg (val xs) e mode = if gridE (val xs) e ≤ e then 0 else if tinyB (val xs) e then 5 else 1 := by unfold exF; rw [hov, if_neg (by decide)]
            have hgl : bl (val xs) + e - 53 ≤ gridE (val xs) e := by unfold gridE; omega
            have hgd : gridE (val xs) e - e ≤ 1000000 := by unfold gridE; omega
            have G := fun w' (hb : Below w.heap.size w w') => rgrid neg A n c xs e true w' (h.below hb) (by omega) (by omega) (by omega)
            simp only [if_true] at G
            have RC := fun w' (hb : Below w.heap.size w w') => rchoose neg A n c xs e (gridE (val xs) e) mode w' (h.below hb) (by omega) v1 (by omega) (by omega) (by omega) (by omega) hgd (by omega)
            have TN := Lib.hid (fun w' (hb : Below w.heap.size w w') => rtiny neg A n c xs e w' (h.below hb) hp)
            have CM := fun w' A6 n6 c6 (h6 : Arr w' A6 n6 c6 (wd m)) (hb : Below w.heap.size w w') => rdcmp s neg A6 A n6 c6 n c (wd m) xs f e w' h6 (h.below hb) (by
              have := wd_length_le (n := m) (k := 1000000) hm (by
                have l := (plainB_parts (wf_wd _ hm) (mk_plain (units_range (neg := neg) (mode := mode) v0 hgl).1 hmk).1).2.1
                exact Int.lt_of_lt_of_le (lt_pow_of_wd_length hm l) (B_pow_le (by omega)))
              rw [← h6.len]; exact this) (by omega)
            rw [hcr] at CM
            obtain ⟨u0, u1⟩ := units_len (neg := neg) (mode := mode) (e := e) v0 hgl
            have hv := val_wd _ u0
            have hml : (wd m).length ≤ 256 := (plainB_parts (wf_wd _ hm) (mk_plain (units_range (neg := neg) (mode := mode) v0 hgl).1 hmk).1).2.1
            have ql : (wd (unitsI neg (val xs) e (gridE (val xs) e) mode)).length = 0 → unitsI neg (val xs) e (gridE (val xs) e) mode = 0 := by
              intro hh
              have := wd_eq_nil.1 (List.length_eq_zero_iff.1 hh)
              omega
            have MK := fun w' A5 n5 c5 (h5 : Arr w' A5 n5 c5 (wd (unitsI neg (val xs) e (gridE (val xs) e) mode))) => rmake neg A5 n5 c5 _ (gridE (val xs) e) w' h5 (by rw [← h5.len]; omega) (by omega) (by omega)
            rw [hv, hmk] at MK
            have WD := fun w' A6 n6 c6 (h6 : Arr w' A6 n6 c6 (wd m)) => rword s A6 n6 c6 (wd m) f w' h6 (by rw [← h6.len]; omega)
            rw [hwd] at WD
            rw [ef]
            clear ef hov
            generalize hx : tinyB (val xs) e = tb at *
            generalize exW neg (val xs) e mode = F at *
            generalize unitsI neg (val xs) e (gridE (val xs) e) mode = q at *
            generalize gridE (val xs) e = E at *
            have G := Lib.hid G
            have RC := Lib.hid RC
            have CM := Lib.hid CM
            have MK := Lib.hid MK
            have WD := Lib.hid WD
            have ht0 : bl (val xs) + e ≤ 300000 := by omega
            have ht1 : -300000 ≤ bl (val xs) + e := by omega
            clear hmk hwd hp hv hcr
            have key : ∃ ex : Bool, (cc == 0) = ex ∧ (cc != 0) = !ex ∧ decide (cc = 0) = ex ∧ (if E ≤ e then 0 else if tb = true then 5 else 1 : Int) = if ex then 0 else if tb then 5 else 1 := by
              by_cases hex : E ≤ e
              · exact ⟨true, by simp [hcc.2 hex], by simp [hcc.2 hex], by simp [hcc.2 hex], by simp [hex]⟩
              · have : ¬ cc = 0 := fun hh => hex (hcc.1 hh)
                exact ⟨false, by simp [this], by simp [this], by simp [this], by simp [hex]⟩
            obtain ⟨ex, x1, x2, x3, x4⟩ := key
            rw [x4]
            clear x4 hcc
            by_cases hq : q = 0
            · have HF : Hid (F = sg neg) := hz1 hq
              have hl : (wd q).length = 0 := by rw [hq, wd_zero (Int.le_refl _)]; rfl
              have HL := Lib.hid hl
              clear hz1 hz2 ql hl hq u0 u1
              cases ex
              · cases tb <;> cases neg
                all_goals
                  simp only [Bool.false_eq_true, if_false, if_true]
                  (go_enter Tryd.func13, Tryd.ntmps13; go_wp2_with fail; refine (PL.out _ b0).mono ?_; rintro r w2 ⟨rfl, hb2⟩; (have b0 := below_on b0 hb2; have bx := bx.later hb2; (clear k0 k1 k2 f0 f1 f2; obtain ⟨k0, k1, k2, f0, f1, f2⟩ := bx.cell3); clear hb2))
                  (go_wp2_with fail; refine (OV.out _ b0).mono ?_; rintro r w3 ⟨rfl, hb3⟩; (have b0 := below_on b0 hb3; have bx := bx.later hb3; (clear k0 k1 k2 f0 f1 f2; obtain ⟨k0, k1, k2, f0, f1, f2⟩ := bx.cell3); clear hb3))
                  (go_wp2_with fail; refine (G.out _ b0).mono ?_; rintro r w4 ⟨rfl, hb4⟩; (have b0 := below_on b0 hb4; have bx := bx.later hb4; (clear k0 k1 k2 f0 f1 f2; obtain ⟨k0, k1, k2, f0, f1, f2⟩ := bx.cell3); clear hb4); go_wp2_with fail; refine (RC.out _ b0).mono ?_; rintro r w5 ⟨A5, n5, c5, rfl, h5, hb5⟩; have l5 := h5.len; (have b0 := below_on b0 hb5; have bx := bx.later hb5; (clear k0 k1 k2 f0 f1 f2; obtain ⟨k0, k1, k2, f0, f1, f2⟩ := bx.cell3); clear hb5); go_wp2_with fail; refine (MK.out w5 A5 n5 c5 h5).mono ?_; rintro r w6 hr; obtain ⟨A6, n6, c6, rfl, h6, hb6⟩ := retD_some hr; clear hr; have b6 := below_alloc hb6 (.cells #[.bool s, .slice A6 n6 c6, .int .i64 f] 24); have h6 := h6.below (below_alloc (below_self w6) (.cells #[.bool s, .slice A6 n6 c6, .int .i64 f] 24)); have bz := box_new w6 #[.bool s, .slice A6 n6 c6, .int .i64 f] 24; obtain ⟨j0, j1, j2, g0, g1, g2⟩ := bz.cell3; clear hb6; (have b0 := below_on b0 b6; have bx := bx.later b6; (clear k0 k1 k2 f0 f1 f2; obtain ⟨k0, k1, k2, f0, f1, f2⟩ := bx.cell3); clear b6); go_wp2_with fail; refine (WD.out _ A6 n6 c6 h6).mono ?_; rintro r w7 ⟨rfl, hb7⟩; clear j0 j1 j2 g0 g1 g2; have bz := bz.later hb7; have h6 := h6.below hb7; obtain ⟨j0, j1, j2, g0, g1, g2⟩ := bz.cell3; (have b0 := below_on b0 hb7; have bx := bx.later hb7; (clear k0 k1 k2 f0 f1 f2; obtain ⟨k0, k1, k2, f0, f1, f2⟩ := bx.cell3); clear hb7); simp only [Option.getD_some, Option.isSome_some])
                  obtain rfl : n5 = 0 := by rw [← l5]; exact HL.out
                  (go_wp2_with fail; refine (CM.out _ A6 n6 c6 h6 b0).mono ?_; rintro r w8 ⟨rfl, hb8⟩; clear j0 j1 j2 g0 g1 g2 bz; (have b0 := below_on b0 hb8; have bx := bx.later hb8; (clear k0 k1 k2 f0 f1 f2; obtain ⟨k0, k1, k2, f0, f1, f2⟩ := bx.cell3); clear hb8))
                  (go_wp2_with fail; refine (TN.out _ b0).mono ?_; rintro r w9 ⟨rfl, hb9⟩; (have b0 := below_on b0 hb9; have bx := bx.later hb9; (clear k0 k1 k2 f0 f1 f2; obtain ⟨k0, k1, k2, f0, f1, f2⟩ := bx.cell3); clear hb9))
                  go_wp2_with fail
                  go_ret3
                  exact ⟨by simp [HF.out, sg], b0⟩
              · cases neg
                all_goals
                  simp only [Bool.false_eq_true, if_false, if_true]
                  (go_enter Tryd.func13, Tryd.ntmps13; go_wp2_with fail; refine (PL.out _ b0).mono ?_; rintro r w2 ⟨rfl, hb2⟩; (have b0 := below_on b0 hb2; have bx := bx.later hb2; (clear k0 k1 k2 f0 f1 f2; obtain ⟨k0, k1, k2, f0, f1, f2⟩ := bx.cell3); clear hb2))
                  (go_wp2_with fail; refine (OV.out _ b0).mono ?_; rintro r w3 ⟨rfl, hb3⟩; (have b0 := below_on b0 hb3; have bx := bx.later hb3; (clear k0 k1 k2 f0 f1 f2; obtain ⟨k0, k1, k2, f0, f1, f2⟩ := bx.cell3); clear hb3))
                  (go_wp2_with fail; refine (G.out _ b0).mono ?_; rintro r w4 ⟨rfl, hb4⟩; (have b0 := below_on b0 hb4; have bx := bx.later hb4; (clear k0 k1 k2 f0 f1 f2; obtain ⟨k0, k1, k2, f0, f1, f2⟩ := bx.cell3); clear hb4); go_wp2_with fail; refine (RC.out _ b0).mono ?_; rintro r w5 ⟨A5, n5, c5, rfl, h5, hb5⟩; have l5 := h5.len; (have b0 := below_on b0 hb5; have bx := bx.later hb5; (clear k0 k1 k2 f0 f1 f2; obtain ⟨k0, k1, k2, f0, f1, f2⟩ := bx.cell3); clear hb5); go_wp2_with fail; refine (MK.out w5 A5 n5 c5 h5).mono ?_; rintro r w6 hr; obtain ⟨A6, n6, c6, rfl, h6, hb6⟩ := retD_some hr; clear hr; have b6 := below_alloc hb6 (.cells #[.bool s, .slice A6 n6 c6, .int .i64 f] 24); have h6 := h6.below (below_alloc (below_self w6) (.cells #[.bool s, .slice A6 n6 c6, .int .i64 f] 24)); have bz := box_new w6 #[.bool s, .slice A6 n6 c6, .int .i64 f] 24; obtain ⟨j0, j1, j2, g0, g1, g2⟩ := bz.cell3; clear hb6; (have b0 := below_on b0 b6; have bx := bx.later b6; (clear k0 k1 k2 f0 f1 f2; obtain ⟨k0, k1, k2, f0, f1, f2⟩ := bx.cell3); clear b6); go_wp2_with fail; refine (WD.out _ A6 n6 c6 h6).mono ?_; rintro r w7 ⟨rfl, hb7⟩; clear j0 j1 j2 g0 g1 g2; have bz := bz.later hb7; have h6 := h6.below hb7; obtain ⟨j0, j1, j2, g0, g1, g2⟩ := bz.cell3; (have b0 := below_on b0 hb7; have bx := bx.later hb7; (clear k0 k1 k2 f0 f1 f2; obtain ⟨k0, k1, k2, f0, f1, f2⟩ := bx.cell3); clear hb7); simp only [Option.getD_some, Option.isSome_some])
                  obtain rfl : n5 = 0 := by rw [← l5]; exact HL.out
                  (go_wp2_with fail; refine (CM.out _ A6 n6 c6 h6 b0).mono ?_; rintro r w8 ⟨rfl, hb8⟩; clear j0 j1 j2 g0 g1 g2 bz; (have b0 := below_on b0 hb8; have bx := bx.later hb8; (clear k0 k1 k2 f0 f1 f2; obtain ⟨k0, k1, k2, f0, f1, f2⟩ := bx.cell3); clear hb8))
                  go_wp2_with fail
                  go_ret3
                  exact ⟨by simp [HF.out, sg], b0⟩
            · have HF : Hid (F = W') := hz2 hq
              have hl : (wd q).length ≠ 0 := fun hh => hq (ql hh)
              have HL := Lib.hid hl
              clear hz1 hz2 ql hl hq u0 u1
              cases ex
              · cases tb <;> cases neg
                all_goals
                  simp only [Bool.false_eq_true, if_false, if_true]
                  (go_enter Tryd.func13, Tryd.ntmps13; go_wp2_with fail; refine (PL.out _ b0).mono ?_; rintro r w2 ⟨rfl, hb2⟩; (have b0 := below_on b0 hb2; have bx := bx.later hb2; (clear k0 k1 k2 f0 f1 f2; obtain ⟨k0, k1, k2, f0, f1, f2⟩ := bx.cell3); clear hb2))
                  (go_wp2_with fail; refine (OV.out _ b0).mono ?_; rintro r w3 ⟨rfl, hb3⟩; (have b0 := below_on b0 hb3; have bx := bx.later hb3; (clear k0 k1 k2 f0 f1 f2; obtain ⟨k0, k1, k2, f0, f1, f2⟩ := bx.cell3); clear hb3))
                  (go_wp2_with fail; refine (G.out _ b0).mono ?_; rintro r w4 ⟨rfl, hb4⟩; (have b0 := below_on b0 hb4; have bx := bx.later hb4; (clear k0 k1 k2 f0 f1 f2; obtain ⟨k0, k1, k2, f0, f1, f2⟩ := bx.cell3); clear hb4); go_wp2_with fail; refine (RC.out _ b0).mono ?_; rintro r w5 ⟨A5, n5, c5, rfl, h5, hb5⟩; have l5 := h5.len; (have b0 := below_on b0 hb5; have bx := bx.later hb5; (clear k0 k1 k2 f0 f1 f2; obtain ⟨k0, k1, k2, f0, f1, f2⟩ := bx.cell3); clear hb5); go_wp2_with fail; refine (MK.out w5 A5 n5 c5 h5).mono ?_; rintro r w6 hr; obtain ⟨A6, n6, c6, rfl, h6, hb6⟩ := retD_some hr; clear hr; have b6 := below_alloc hb6 (.cells #[.bool s, .slice A6 n6 c6, .int .i64 f] 24); have h6 := h6.below (below_alloc (below_self w6) (.cells #[.bool s, .slice A6 n6 c6, .int .i64 f] 24)); have bz := box_new w6 #[.bool s, .slice A6 n6 c6, .int .i64 f] 24; obtain ⟨j0, j1, j2, g0, g1, g2⟩ := bz.cell3; clear hb6; (have b0 := below_on b0 b6; have bx := bx.later b6; (clear k0 k1 k2 f0 f1 f2; obtain ⟨k0, k1, k2, f0, f1, f2⟩ := bx.cell3); clear b6); go_wp2_with fail; refine (WD.out _ A6 n6 c6 h6).mono ?_; rintro r w7 ⟨rfl, hb7⟩; clear j0 j1 j2 g0 g1 g2; have bz := bz.later hb7; have h6 := h6.below hb7; obtain ⟨j0, j1, j2, g0, g1, g2⟩ := bz.cell3; (have b0 := below_on b0 hb7; have bx := bx.later hb7; (clear k0 k1 k2 f0 f1 f2; obtain ⟨k0, k1, k2, f0, f1, f2⟩ := bx.cell3); clear hb7); simp only [Option.getD_some, Option.isSome_some])
                  have d5 : ((n5 : Int) == 0) = false := by have := HL.out; simp; omega
                  (go_wp2_with fail; refine (CM.out _ A6 n6 c6 h6 b0).mono ?_; rintro r w8 ⟨rfl, hb8⟩; clear j0 j1 j2 g0 g1 g2 bz; (have b0 := below_on b0 hb8; have bx := bx.later hb8; (clear k0 k1 k2 f0 f1 f2; obtain ⟨k0, k1, k2, f0, f1, f2⟩ := bx.cell3); clear hb8))
                  (go_wp2_with fail; refine (TN.out _ b0).mono ?_; rintro r w9 ⟨rfl, hb9⟩; (have b0 := below_on b0 hb9; have bx := bx.later hb9; (clear k0 k1 k2 f0 f1 f2; obtain ⟨k0, k1, k2, f0, f1, f2⟩ := bx.cell3); clear hb9))
                  go_wp2_with fail
                  go_ret3
                  exact ⟨by simp [HF.out], b0⟩
              · cases neg
                all_goals
                  simp only [Bool.false_eq_true, if_false, if_true]
                  (go_enter Tryd.func13, Tryd.ntmps13; go_wp2_with fail; refine (PL.out _ b0).mono ?_; rintro r w2 ⟨rfl, hb2⟩; (have b0 := below_on b0 hb2; have bx := bx.later hb2; (clear k0 k1 k2 f0 f1 f2; obtain ⟨k0, k1, k2, f0, f1, f2⟩ := bx.cell3); clear hb2))
                  (go_wp2_with fail; refine (OV.out _ b0).mono ?_; rintro r w3 ⟨rfl, hb3⟩; (have b0 := below_on b0 hb3; have bx := bx.later hb3; (clear k0 k1 k2 f0 f1 f2; obtain ⟨k0, k1, k2, f0, f1, f2⟩ := bx.cell3); clear hb3))
                  (go_wp2_with fail; refine (G.out _ b0).mono ?_; rintro r w4 ⟨rfl, hb4⟩; (have b0 := below_on b0 hb4; have bx := bx.later hb4; (clear k0 k1 k2 f0 f1 f2; obtain ⟨k0, k1, k2, f0, f1, f2⟩ := bx.cell3); clear hb4); go_wp2_with fail; refine (RC.out _ b0).mono ?_; rintro r w5 ⟨A5, n5, c5, rfl, h5, hb5⟩; have l5 := h5.len; (have b0 := below_on b0 hb5; have bx := bx.later hb5; (clear k0 k1 k2 f0 f1 f2; obtain ⟨k0, k1, k2, f0, f1, f2⟩ := bx.cell3); clear hb5); go_wp2_with fail; refine (MK.out w5 A5 n5 c5 h5).mono ?_; rintro r w6 hr; obtain ⟨A6, n6, c6, rfl, h6, hb6⟩ := retD_some hr; clear hr; have b6 := below_alloc hb6 (.cells #[.bool s, .slice A6 n6 c6, .int .i64 f] 24); have h6 := h6.below (below_alloc (below_self w6) (.cells #[.bool s, .slice A6 n6 c6, .int .i64 f] 24)); have bz := box_new w6 #[.bool s, .slice A6 n6 c6, .int .i64 f] 24; obtain ⟨j0, j1, j2, g0, g1, g2⟩ := bz.cell3; clear hb6; (have b0 := below_on b0 b6; have bx := bx.later b6; (clear k0 k1 k2 f0 f1 f2; obtain ⟨k0, k1, k2, f0, f1, f2⟩ := bx.cell3); clear b6); go_wp2_with fail; refine (WD.out _ A6 n6 c6 h6).mono ?_; rintro r w7 ⟨rfl, hb7⟩; clear j0 j1 j2 g0 g1 g2; have bz := bz.later hb7; have h6 := h6.below hb7; obtain ⟨j0, j1, j2, g0, g1, g2⟩ := bz.cell3; (have b0 := below_on b0 hb7; have bx := bx.later hb7; (clear k0 k1 k2 f0 f1 f2; obtain ⟨k0, k1, k2, f0, f1, f2⟩ := bx.cell3); clear hb7); simp only [Option.getD_some, Option.isSome_some])
                  have d5 : ((n5 : Int) == 0) = false := by have := HL.out; simp; omega
                  (go_wp2_with fail; refine (CM.out _ A6 n6 c6 h6 b0).mono ?_; rintro r w8 ⟨rfl, hb8⟩; clear j0 j1 j2 g0 g1 g2 bz; (have b0 := below_on b0 hb8; have bx := bx.later hb8; (clear k0 k1 k2 f0 f1 f2; obtain ⟨k0, k1, k2, f0, f1, f2⟩ := bx.cell3); clear hb8))
                  go_wp2_with fail
                  go_ret3
                  exact ⟨by simp [HF.out], b0⟩
          · rw [hov] at OV
            have OV := Lib.hid OV
            have ew : exW neg (val xs) e mode = sg neg + (if inB neg mode then 9218868437227405311 else 9218868437227405312) := by unfold exW; rw [hov, if_pos rfl]
            have ef : exF neg (val xs) e mode = 3 := by unfold exF; rw [hov, if_pos rfl]
            rw [ew, ef]
            clear ew ef hov hp
            have : mode = 0 ∨ mode = 1 ∨ mode = 2 ∨ mode = 3 ∨ mode = 4 := by omega
            rcases this with rfl | rfl | rfl | rfl | rfl <;> cases neg
            all_goals
              (go_enter Tryd.func13, Tryd.ntmps13; go_wp2_with fail; refine (PL.out _ b0).mono ?_; rintro r w2 ⟨rfl, hb2⟩; (have b0 := below_on b0 hb2; have bx := bx.later hb2; (clear k0 k1 k2 f0 f1 f2; obtain ⟨k0, k1, k2, f0, f1, f2⟩ := bx.cell3); clear hb2))
              (go_wp2_with fail; refine (OV.out _ b0).mono ?_; rintro r w3 ⟨rfl, hb3⟩; (have b0 := below_on b0 hb3; have bx := bx.later hb3; (clear k0 k1 k2 f0 f1 f2; obtain ⟨k0, k1, k2, f0, f1, f2⟩ := bx.cell3); clear hb3))
              go_wp2_with fail
              go_ret3
              exact ⟨rfl, b0⟩
end Go.Proofs.YtlmojkknlkfloaaDoor
