/- Package round: Exact. -/
import Derived.OwnWalk
import Derived.Test.YtlmojkknlkfloaaDoorRdC
namespace Go.Proofs.YtlmojkknlkfloaaDoor
open Go.RowKit Num
set_option linter.unusedSimpArgs false
set_option linter.unusedVariables false
set_option maxRecDepth 100000

theorem or_14 : bits .or .i64 1 4 = 5 := by rfl
theorem retD_some {s : Bool} {m e : Int} {w w' : World} {r : Ending} (h : RetD (some ⟨s, m, e⟩) w r w') : ∃ A n c, r = .returned (.tuple #[.agg #[.bool s, .slice A n c, .int .i64 e], .bool true]) ∧ Arr w' A n c (wd m) ∧ Below w.heap.size w w' := h
set_option maxHeartbeats 4000000 in
theorem rdexact (neg : Bool) (A : Option Addr) (n c : Nat) (xs : List Int) (e mode : Int) (w : World) (h : Arr w A n c xs) (hT : Tz w) :
    Calls Tryd.prog 12 #[.agg #[.bool neg, .slice A n c, .int .i64 e], .int .i64 mode] w (RetX (exactD neg xs e mode) w) := by
  have b0 : Below w.heap.size w (w.alloc (.cells #[.bool neg, .slice A n c, .int .i64 e] 24)) := below_alloc (below_self w) _
  have bx := box_new w #[.bool neg, .slice A n c, .int .i64 e] 24
  obtain ⟨k0, k1, k2, f0, f1, f2⟩ := bx.cell3
  have PL := fun w' (hb : Below w.heap.size w w') => plain neg A n c xs e w' (h.below hb)
  cases hp : plainB neg xs e
  · rw [hp] at PL
    have PL := Lib.hid PL
    have er : exactD neg xs e mode = none := by unfold exactD; rw [hp]; rfl
    rw [er]
    clear er hp
    (go_enter Tryd.func12, Tryd.ntmps12; go_wp2_with fail; refine (PL.out _ b0).mono ?_; rintro r w2 ⟨rfl, hb2⟩; (have b0 := below_on b0 hb2; have bx := bx.later hb2; (clear k0 k1 k2 f0 f1 f2; obtain ⟨k0, k1, k2, f0, f1, f2⟩ := bx.cell3); clear hb2))
    go_wp2_with fail
    go_ret3
    exact ⟨rfl, b0⟩
  · rw [hp] at PL
    have PL := Lib.hid PL
    by_cases m0 : mode < 0
    · have er : exactD neg xs e mode = none := by unfold exactD; rw [decide_eq_false (p := 0 ≤ mode) (by omega)]; simp
      rw [er]
      have d0 : decide (mode < 0) = true := decide_eq_true m0
      clear er hp
      (go_enter Tryd.func12, Tryd.ntmps12; go_wp2_with fail; refine (PL.out _ b0).mono ?_; rintro r w2 ⟨rfl, hb2⟩; (have b0 := below_on b0 hb2; have bx := bx.later hb2; (clear k0 k1 k2 f0 f1 f2; obtain ⟨k0, k1, k2, f0, f1, f2⟩ := bx.cell3); clear hb2))
      go_wp2_with fail
      go_ret3
      exact ⟨rfl, b0⟩
    · have d0 : decide (mode < 0) = false := decide_eq_false m0
      by_cases m1 : 4 < mode
      · have er : exactD neg xs e mode = none := by unfold exactD; rw [decide_eq_false (p := mode ≤ 4) (by omega)]; simp
        rw [er]
        have d1 : decide (mode > 4) = true := decide_eq_true m1
        have d2 : decide (4 < mode) = true := decide_eq_true m1
        clear er hp
        (go_enter Tryd.func12, Tryd.ntmps12; go_wp2_with fail; refine (PL.out _ b0).mono ?_; rintro r w2 ⟨rfl, hb2⟩; (have b0 := below_on b0 hb2; have bx := bx.later hb2; (clear k0 k1 k2 f0 f1 f2; obtain ⟨k0, k1, k2, f0, f1, f2⟩ := bx.cell3); clear hb2))
        go_wp2_with fail
        go_ret3
        exact ⟨rfl, b0⟩
      · have d1 : decide (mode > 4) = false := decide_eq_false m1
        have d2 : decide (4 < mode) = false := decide_eq_false m1
        have er : exactD neg xs e mode = if xs.length = 0 then some (0, 0) else some (exW neg (val xs) e mode, exF neg (val xs) e mode) := by
          unfold exactD; rw [hp, decide_eq_true (p := 0 ≤ mode) (by omega), decide_eq_true (p := mode ≤ 4) (by omega)]; rfl
        rw [er]
        clear er
        by_cases h0 : n = 0
        · rw [if_pos (h.len.trans h0)]
          subst h0
          clear hp
          (go_enter Tryd.func12, Tryd.ntmps12; go_wp2_with fail; refine (PL.out _ b0).mono ?_; rintro r w2 ⟨rfl, hb2⟩; (have b0 := below_on b0 hb2; have bx := bx.later hb2; (clear k0 k1 k2 f0 f1 f2; obtain ⟨k0, k1, k2, f0, f1, f2⟩ := bx.cell3); clear hb2))
          go_wp2_with fail
          go_ret3
          exact ⟨rfl, b0⟩
        · rw [if_neg (by rw [h.len]; exact h0)]
          obtain ⟨v0, v1, n1, e0, e1, q0, q1, -⟩ := plain_facts h hp h0
          have dn : ((n : Int) == 0) = false := by simp; omega
          have OV := fun w' (hb : Below w.heap.size w w') => rdover neg A n c xs e mode w' (h.below hb) hp
          cases hov : overB neg (val xs) e mode
          · rw [hov] at OV
            have OV := Lib.hid OV
            obtain ⟨g0, g1, -, -⟩ := grid_fit (mode := mode) v0 hov
            obtain ⟨⟨s, m, f⟩, W, hmk, hwd, hm, hW0, hW1, hWe⟩ := exact_word v0 hov
            have ew : exW neg (val xs) e mode = sg neg + W := by unfold exW; rw [hov, if_neg (by decide), hWe, Int.add_assoc]
            have ef : exF neg (val xs) e mode = if gridE (val xs) e ≤ e then 0 else if tinyB (val xs) e then 5 else 1 := by unfold exF; rw [hov, if_neg (by decide)]
            have hgl : bl (val xs) + e - 53 ≤ gridE (val xs) e := by unfold gridE; omega
            have hgE : max (bl (val xs) + e - 53) (-1074) = gridE (val xs) e := rfl
            have hgd : gridE (val xs) e - e ≤ 1048576 := by unfold gridE; omega
            have T := Lib.hid (fun w' (hb : Below w.heap.size w w') => rdtop neg A n c xs e w' (h.below hb) (by omega) (by omega) (by omega))
            have RT := fun w' (hb : Below w.heap.size w w') => rdto neg A n c xs e (gridE (val xs) e) mode w' (h.below hb) (by omega) (by omega) (by omega) (by omega) (by omega) hgd (by omega)
            have TN := Lib.hid (fun w' (hb : Below w.heap.size w w') => rdtiny neg A n c xs e w' (h.below hb) hp)
            obtain ⟨u0, u1⟩ := units_len (neg := neg) (mode := mode) (e := e) v0 hgl
            have hv := val_wd _ u0
            rw [ew, ef]
            clear ew ef hWe hov
            have ht0 : bl (val xs) + e ≤ 300000 := by omega
            have ht1 : -300000 ≤ bl (val xs) + e := by omega
            generalize hx : tinyB (val xs) e = tb at *
            generalize unitsI neg (val xs) e (gridE (val xs) e) mode = q at *
            generalize gridE (val xs) e = E at *
            generalize bl (val xs) + e = t at *
            have OS := Lib.hid (or_sign hW0 hW1)
            have HG := Lib.hid hgE
            have HV := Lib.hid hv
            have HM := Lib.hid hmk
            have HW : Hid (wordD s (wd m) f = some W) := hwd
            clear hgE hv hmk hwd hp
            by_cases hex : E ≤ e
            · rw [decide_eq_true hex] at RT
              have RT := Lib.hid RT
              rw [if_pos hex]
              clear hex
              obtain ⟨F, hF⟩ : ∃ F : Int, F = sg neg + W := ⟨_, rfl⟩
              rw [← hF]
              have HF := Lib.hid hF
              clear hF
              cases neg
              all_goals
                (go_enter Tryd.func12, Tryd.ntmps12; go_wp2_with fail; refine (PL.out _ b0).mono ?_; rintro r w2 ⟨rfl, hb2⟩; (have b0 := below_on b0 hb2; have bx := bx.later hb2; (clear k0 k1 k2 f0 f1 f2; obtain ⟨k0, k1, k2, f0, f1, f2⟩ := bx.cell3); clear hb2))
                (go_wp2_with fail; refine (OV.out _ b0).mono ?_; rintro r w3 ⟨rfl, hb3⟩; (have b0 := below_on b0 hb3; have bx := bx.later hb3; (clear k0 k1 k2 f0 f1 f2; obtain ⟨k0, k1, k2, f0, f1, f2⟩ := bx.cell3); clear hb3))
                (go_wp2_with fail; refine (T.out _ b0).mono ?_; rintro r w4 ⟨rfl, hb4⟩; (have b0 := below_on b0 hb4; have bx := bx.later hb4; (clear k0 k1 k2 f0 f1 f2; obtain ⟨k0, k1, k2, f0, f1, f2⟩ := bx.cell3); clear hb4); go_wp2_with fail; rw [HG.out]; refine (RT.out _ b0).mono ?_; rintro r w5 ⟨A5, n5, c5, rfl, h5, hb5⟩; have l5 := h5.len; (have b0 := below_on b0 hb5; have bx := bx.later hb5; (clear k0 k1 k2 f0 f1 f2; obtain ⟨k0, k1, k2, f0, f1, f2⟩ := bx.cell3); clear hb5); have MK := make false A5 n5 c5 _ E w5 h5 (by omega) (by omega) (by omega) (hT.below b0); rw [HV.out, HM.out] at MK; have MK := Lib.hid MK; go_wp2_with fail; refine MK.out.mono ?_; rintro r w6 hr; obtain ⟨A6, n6, c6, rfl, h6, hb6⟩ := retD_some hr; clear hr MK; have b6 := below_alloc hb6 (.cells #[.bool s, .slice A6 n6 c6, .int .i64 f] 24); have h6 := h6.below (below_alloc (below_self w6) (.cells #[.bool s, .slice A6 n6 c6, .int .i64 f] 24)); obtain ⟨j0, j1, j2, g0, g1, g2⟩ := (box_new w6 #[.bool s, .slice A6 n6 c6, .int .i64 f] 24).cell3; have WD := word s A6 n6 c6 (wd m) f _ h6; rw [HW.out] at WD; have WD := Lib.hid WD; clear hb6; (have b0 := below_on b0 b6; have bx := bx.later b6; (clear k0 k1 k2 f0 f1 f2; obtain ⟨k0, k1, k2, f0, f1, f2⟩ := bx.cell3); clear b6); go_wp2_with fail; refine WD.out.mono ?_; rintro r w7 ⟨rfl, hb7⟩; clear WD j0 j1 j2 g0 g1 g2; (have b0 := below_on b0 hb7; have bx := bx.later hb7; (clear k0 k1 k2 f0 f1 f2; obtain ⟨k0, k1, k2, f0, f1, f2⟩ := bx.cell3); clear hb7); simp only [Option.getD_some, Option.isSome_some])
                (go_wp2_with fail; go_ret3; exact ⟨by simp [HF.out, OS.out, sg, or_14]; try omega, b0⟩)
            · rw [decide_eq_false hex] at RT
              have RT := Lib.hid RT
              rw [if_neg hex]
              clear hex
              obtain ⟨F, hF⟩ : ∃ F : Int, F = sg neg + W := ⟨_, rfl⟩
              rw [← hF]
              have HF := Lib.hid hF
              clear hF
              cases tb <;> cases neg
              all_goals
                simp only [Bool.false_eq_true, if_false, if_true]
                (go_enter Tryd.func12, Tryd.ntmps12; go_wp2_with fail; refine (PL.out _ b0).mono ?_; rintro r w2 ⟨rfl, hb2⟩; (have b0 := below_on b0 hb2; have bx := bx.later hb2; (clear k0 k1 k2 f0 f1 f2; obtain ⟨k0, k1, k2, f0, f1, f2⟩ := bx.cell3); clear hb2))
                (go_wp2_with fail; refine (OV.out _ b0).mono ?_; rintro r w3 ⟨rfl, hb3⟩; (have b0 := below_on b0 hb3; have bx := bx.later hb3; (clear k0 k1 k2 f0 f1 f2; obtain ⟨k0, k1, k2, f0, f1, f2⟩ := bx.cell3); clear hb3))
                (go_wp2_with fail; refine (T.out _ b0).mono ?_; rintro r w4 ⟨rfl, hb4⟩; (have b0 := below_on b0 hb4; have bx := bx.later hb4; (clear k0 k1 k2 f0 f1 f2; obtain ⟨k0, k1, k2, f0, f1, f2⟩ := bx.cell3); clear hb4); go_wp2_with fail; rw [HG.out]; refine (RT.out _ b0).mono ?_; rintro r w5 ⟨A5, n5, c5, rfl, h5, hb5⟩; have l5 := h5.len; (have b0 := below_on b0 hb5; have bx := bx.later hb5; (clear k0 k1 k2 f0 f1 f2; obtain ⟨k0, k1, k2, f0, f1, f2⟩ := bx.cell3); clear hb5); have MK := make false A5 n5 c5 _ E w5 h5 (by omega) (by omega) (by omega) (hT.below b0); rw [HV.out, HM.out] at MK; have MK := Lib.hid MK; go_wp2_with fail; refine MK.out.mono ?_; rintro r w6 hr; obtain ⟨A6, n6, c6, rfl, h6, hb6⟩ := retD_some hr; clear hr MK; have b6 := below_alloc hb6 (.cells #[.bool s, .slice A6 n6 c6, .int .i64 f] 24); have h6 := h6.below (below_alloc (below_self w6) (.cells #[.bool s, .slice A6 n6 c6, .int .i64 f] 24)); obtain ⟨j0, j1, j2, g0, g1, g2⟩ := (box_new w6 #[.bool s, .slice A6 n6 c6, .int .i64 f] 24).cell3; have WD := word s A6 n6 c6 (wd m) f _ h6; rw [HW.out] at WD; have WD := Lib.hid WD; clear hb6; (have b0 := below_on b0 b6; have bx := bx.later b6; (clear k0 k1 k2 f0 f1 f2; obtain ⟨k0, k1, k2, f0, f1, f2⟩ := bx.cell3); clear b6); go_wp2_with fail; refine WD.out.mono ?_; rintro r w7 ⟨rfl, hb7⟩; clear WD j0 j1 j2 g0 g1 g2; (have b0 := below_on b0 hb7; have bx := bx.later hb7; (clear k0 k1 k2 f0 f1 f2; obtain ⟨k0, k1, k2, f0, f1, f2⟩ := bx.cell3); clear hb7); simp only [Option.getD_some, Option.isSome_some])
                (go_wp2_with fail; refine (TN.out _ b0).mono ?_; rintro r w8 ⟨rfl, hb8⟩; (have b0 := below_on b0 hb8; have bx := bx.later hb8; (clear k0 k1 k2 f0 f1 f2; obtain ⟨k0, k1, k2, f0, f1, f2⟩ := bx.cell3); clear hb8))
                (go_wp2_with fail; go_ret3; exact ⟨by simp [HF.out, OS.out, sg, or_14]; try omega, b0⟩)
          · rw [hov] at OV
            have OV := Lib.hid OV
            have NR := fun w => rdnear mode w
            have OW := fun w => rdout neg mode w
            have ew : exW neg (val xs) e mode = sg neg + (if (!nearB mode && !outB neg mode) then 9218868437227405311 else 9218868437227405312) := by unfold exW; rw [hov, if_pos rfl, in_eq (by omega) (by omega)]
            have ef : exF neg (val xs) e mode = 3 := by unfold exF; rw [hov, if_pos rfl]
            rw [ew, ef]
            clear ew ef hov hp
            have o1 : bits .or .u64 9218868437227405312 9223372036854775808 = 18442240474082181120 := or_sign (by decide) (by decide)
            have o2 : bits .or .u64 9218868437227405311 9223372036854775808 = 18442240474082181119 := or_sign (by decide) (by decide)
            generalize nearB mode = nr at *
            generalize outB neg mode = ob at *
            cases nr
            · have NR := Lib.hid NR
              cases ob <;> cases neg
              all_goals
                have OW := Lib.hid OW
                (go_enter Tryd.func12, Tryd.ntmps12; go_wp2_with fail; refine (PL.out _ b0).mono ?_; rintro r w2 ⟨rfl, hb2⟩; (have b0 := below_on b0 hb2; have bx := bx.later hb2; (clear k0 k1 k2 f0 f1 f2; obtain ⟨k0, k1, k2, f0, f1, f2⟩ := bx.cell3); clear hb2))
                (go_wp2_with fail; refine (OV.out _ b0).mono ?_; rintro r w3 ⟨rfl, hb3⟩; (have b0 := below_on b0 hb3; have bx := bx.later hb3; (clear k0 k1 k2 f0 f1 f2; obtain ⟨k0, k1, k2, f0, f1, f2⟩ := bx.cell3); clear hb3))
                go_wp2_with fail
                refine (NR.out _).mono ?_; rintro r w' ⟨rfl, rfl⟩
                go_wp2_with fail
                refine (OW.out _).mono ?_; rintro r w' ⟨rfl, rfl⟩
                go_wp2_with fail
                go_ret3
                exact ⟨rfl, b0⟩
            · have NR := Lib.hid NR
              clear OW
              cases neg
              all_goals
                (go_enter Tryd.func12, Tryd.ntmps12; go_wp2_with fail; refine (PL.out _ b0).mono ?_; rintro r w2 ⟨rfl, hb2⟩; (have b0 := below_on b0 hb2; have bx := bx.later hb2; (clear k0 k1 k2 f0 f1 f2; obtain ⟨k0, k1, k2, f0, f1, f2⟩ := bx.cell3); clear hb2))
                (go_wp2_with fail; refine (OV.out _ b0).mono ?_; rintro r w3 ⟨rfl, hb3⟩; (have b0 := below_on b0 hb3; have bx := bx.later hb3; (clear k0 k1 k2 f0 f1 f2; obtain ⟨k0, k1, k2, f0, f1, f2⟩ := bx.cell3); clear hb3))
                go_wp2_with fail
                refine (NR.out _).mono ?_; rintro r w' ⟨rfl, rfl⟩
                go_wp2_with fail
                go_ret3
                exact ⟨by simp [sg], b0⟩
end Go.Proofs.YtlmojkknlkfloaaDoor
