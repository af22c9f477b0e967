/- part's and the document's: which points are singular. -/
import Derived.Test.YtbfnjjnnlbchgaaSpD
namespace Go.Proofs.Ytbfnjjnnlbchgaa
open Go.RowKit Num
set_option linter.unusedSimpArgs false
set_option linter.unusedVariables false
set_option maxRecDepth 100000

set_option maxHeartbeats 2000000 in
theorem psingular (tag x y u v : Int) (w : World) (hx : Wd x) (hy : Wd y) (hu : Wd u) (hv : Wd v) :
    Calls Try.prog 13 #[.int .i64 tag, .agg #[.int .u64 x, .int .u64 y, .int .u64 u, .int .u64 v]] w fun r w' => r = .returned (.bool (singZ tag x y u v)) ∧ Below w.heap.size w w' := by
  have b1 := below_alloc (below_self w) (.cells #[.int .u64 x, .int .u64 y, .int .u64 u, .int .u64 v] 24)
  have bx := box_new w #[.int .u64 x, .int .u64 y, .int .u64 u, .int .u64 v] 24
  have PN := pnumbers tag x y u v (w.alloc (.cells #[.int .u64 x, .int .u64 y, .int .u64 u, .int .u64 v] 24)) hx hy hu hv
  unfold singZ
  cases hn : numsI tag x y u v
  · rw [hn] at PN
    have PN := Lib.hid PN
    rw [Bool.false_and]
    clear hn
    obtain ⟨k0, k1, k2, k3⟩ := bx.cell4
    go_enter Try.func13, Try.ntmps13
    go_wp2_with fail
    refine PN.out.mono ?_; rintro r w3 ⟨rfl, hb3⟩
    go_wp2_with fail
    go_ret
    exact ⟨rfl, below_on b1 hb3⟩
  · rw [hn] at PN
    rw [Bool.true_and]
    have PN := Lib.hid PN
    have a0 := and_not_top hx
    have a1 := and_not_top hy
    have a2 := and_not_top hu
    have a3 := and_not_top hv
    have z0 := zero_mod hx
    have z1 := zero_mod hy
    have z2 := zero_mod hu
    have z3 := zero_mod hv
    have o0 : isOne x = decide (x % 9223372036854775808 = 4607182418800017408) := rfl
    have o1 : isOne y = decide (y % 9223372036854775808 = 4607182418800017408) := rfl
    rw [z0, z1, z2, z3, o0, o1]
    have r0 : 0 ≤ x % 9223372036854775808 ∧ x % 9223372036854775808 < 18446744073709551616 := by omega
    have r1 : 0 ≤ y % 9223372036854775808 ∧ y % 9223372036854775808 < 18446744073709551616 := by omega
    have r2 : 0 ≤ u % 9223372036854775808 ∧ u % 9223372036854775808 < 18446744073709551616 := by omega
    have r3 : 0 ≤ v % 9223372036854775808 ∧ v % 9223372036854775808 < 18446744073709551616 := by omega
    clear z0 z1 z2 z3 o0 o1 hn
    generalize x % 9223372036854775808 = sx at *
    generalize y % 9223372036854775808 = sy at *
    generalize u % 9223372036854775808 = su at *
    generalize v % 9223372036854775808 = sv at *
    have A0 := Lib.hid a0
    have A1 := Lib.hid a1
    have A2 := Lib.hid a2
    have A3 := Lib.hid a3
    clear a0 a1 a2 a3
    have ouv := Lib.hid (or_zero r2.1 r2.2 r3.1 r3.2)
    have oxy := Lib.hid (or_zero r0.1 r0.2 r1.1 r1.2)
    clear r0 r1 r2 r3
    generalize hq : (if tag = 5 then decide (su = 0) && decide (sv = 0) else if tag = 8 then decide (sx = 0) && decide (sy = 0) else if tag = 17 then decide (sx = 0) && decide (sy = 4607182418800017408) else if tag = 20 then decide (sx = 4607182418800017408) && decide (sy = 0) else false) = qq
    have HQ := Lib.hid hq
    clear hq
    have i0 : ∀ w, (Instr.index 24 (.agg #[.int .u64 x, .int .u64 y, .int .u64 u, .int .u64 v]) (.int .i64 0)).run Try.prog w = .ok (.int .u64 x) w := fun _ => by kernel_rfl
    have i1 : ∀ w, (Instr.index 24 (.agg #[.int .u64 x, .int .u64 y, .int .u64 u, .int .u64 v]) (.int .i64 1)).run Try.prog w = .ok (.int .u64 y) w := fun _ => by kernel_rfl
    have i2 : ∀ w, (Instr.index 24 (.agg #[.int .u64 x, .int .u64 y, .int .u64 u, .int .u64 v]) (.int .i64 2)).run Try.prog w = .ok (.int .u64 u) w := fun _ => by kernel_rfl
    have i3 : ∀ w, (Instr.index 24 (.agg #[.int .u64 x, .int .u64 y, .int .u64 u, .int .u64 v]) (.int .i64 3)).run Try.prog w = .ok (.int .u64 v) w := fun _ => by kernel_rfl
    obtain ⟨k0, k1, k2, k3⟩ := bx.cell4
    go_enter Try.func13, Try.ntmps13
    go_wp2_with fail
    refine PN.out.mono ?_; rintro r w3 ⟨rfl, hb3⟩
    have hw3 := below_on b1 hb3
    clear k0 k1 k2 k3
    obtain ⟨k0, k1, k2, k3⟩ := ((bx.later hb3).later (below_alloc (below_self w3) (.cells #[.int .u64 0, .int .u64 0, .int .u64 0, .int .u64 0] 23))).cell4
    have bs := box_new w3 #[.int .u64 0, .int .u64 0, .int .u64 0, .int .u64 0] 23
    have bw4 := below_alloc hw3 (.cells #[.int .u64 0, .int .u64 0, .int .u64 0, .int .u64 0] 23)
    have hgs := hw3.size
    go_wp2_with fail
    generalize w3.heap.size = gs at *
    clear k0 k1 k2 k3 PN bx hb3 hw3 b1
    go_loopw [13] (fun vi wr => (∃ i : Nat, i ≤ 4 ∧ vi = .int .i64 i ∧ (i = 0 ∧ (Box wr gs #[.int .u64 0, .int .u64 0, .int .u64 0, .int .u64 0] 23) ∨ i = 1 ∧ (Box wr gs #[.int .u64 sx, .int .u64 0, .int .u64 0, .int .u64 0] 23) ∨ i = 2 ∧ (Box wr gs #[.int .u64 sx, .int .u64 sy, .int .u64 0, .int .u64 0] 23) ∨ i = 3 ∧ (Box wr gs #[.int .u64 sx, .int .u64 sy, .int .u64 su, .int .u64 0] 23) ∨ i = 4 ∧ (Box wr gs #[.int .u64 sx, .int .u64 sy, .int .u64 su, .int .u64 sv] 23))) ∧ Below w.heap.size w wr) (fun vi _ => 4 - (intOf vi).toNat)
    case atStart => exact ⟨⟨0, Nat.zero_le _, rfl, .inl ⟨rfl, bs⟩⟩, bw4⟩
    case round =>
      obtain ⟨⟨i, hi, rfl, hbs⟩, hW⟩ := hrel
      clear bs bw4
      rcases hbs with ⟨rfl, hbs⟩ | ⟨rfl, hbs⟩ | ⟨rfl, hbs⟩ | ⟨rfl, hbs⟩ | ⟨rfl, hbs⟩
      · obtain ⟨k0, k1, k2, k3⟩ := hbs.cell4
        have f0 := hbs.free 0
        have a0 := A0.out
        go_wp2_with fail
        exact ⟨⟨⟨1, by omega, by go_num, .inr (.inl ⟨rfl, hbs.set 0 _⟩)⟩, below_set hW _ _ hgs _⟩, by simp only [intOf]; omega⟩
      · obtain ⟨k0, k1, k2, k3⟩ := hbs.cell4
        have f0 := hbs.free 1
        have a0 := A1.out
        go_wp2_with fail
        exact ⟨⟨⟨2, by omega, by go_num, .inr (.inr (.inl ⟨rfl, hbs.set 1 _⟩))⟩, below_set hW _ _ hgs _⟩, by simp only [intOf]; omega⟩
      · obtain ⟨k0, k1, k2, k3⟩ := hbs.cell4
        have f0 := hbs.free 2
        have a0 := A2.out
        go_wp2_with fail
        exact ⟨⟨⟨3, by omega, by go_num, .inr (.inr (.inr (.inl ⟨rfl, hbs.set 2 _⟩)))⟩, below_set hW _ _ hgs _⟩, by simp only [intOf]; omega⟩
      · obtain ⟨k0, k1, k2, k3⟩ := hbs.cell4
        have f0 := hbs.free 3
        have a0 := A3.out
        go_wp2_with fail
        exact ⟨⟨⟨4, by omega, by go_num, .inr (.inr (.inr (.inr ⟨rfl, hbs.set 3 _⟩)))⟩, below_set hW _ _ hgs _⟩, by simp only [intOf]; omega⟩
      · obtain ⟨k0, k1, k2, k3⟩ := hbs.cell4
        have Q := HQ.out
        clear HQ
        by_cases t5 : tag = 5
        · subst t5
          rw [if_pos rfl] at Q
          by_cases hz : su = 0 ∧ sv = 0
          · have o := ouv.out.2 hz
            simp [hz.1, hz.2] at Q
            (subst Q; go_wp2_with fail; go_ret; exact ⟨rfl, hW⟩)
          · have o : (bits .or .u64 su sv == 0) = false := beq_eq_false_iff_ne.2 (fun h => hz (ouv.out.1 h))
            have e : (decide (su = 0) && decide (sv = 0)) = false := by simp; omega
            rw [e] at Q
            (subst Q; go_wp2_with fail; go_ret; exact ⟨rfl, hW⟩)
        · rw [if_neg t5] at Q
          have d5 : (tag == 5) = false := beq_eq_false_iff_ne.2 t5
          by_cases t8 : tag = 8
          · subst t8
            rw [if_pos rfl] at Q
            by_cases hz : sx = 0 ∧ sy = 0
            · have o := oxy.out.2 hz
              simp [hz.1, hz.2] at Q
              (subst Q; go_wp2_with fail; go_ret; exact ⟨rfl, hW⟩)
            · have o : (bits .or .u64 sx sy == 0) = false := beq_eq_false_iff_ne.2 (fun h => hz (oxy.out.1 h))
              have e : (decide (sx = 0) && decide (sy = 0)) = false := by simp; omega
              rw [e] at Q
              (subst Q; go_wp2_with fail; go_ret; exact ⟨rfl, hW⟩)
          · rw [if_neg t8] at Q
            have d8 : (tag == 8) = false := beq_eq_false_iff_ne.2 t8
            by_cases t17 : tag = 17
            · subst t17
              rw [if_pos rfl] at Q
              by_cases hz : sx = 0
              · subst hz
                by_cases ho : sy = 4607182418800017408
                · subst ho
                  simp at Q
                  (subst Q; go_wp2_with fail; go_ret; exact ⟨rfl, hW⟩)
                · have d : (sy == 4607182418800017408) = false := beq_eq_false_iff_ne.2 ho
                  rw [decide_eq_false ho, Bool.and_false] at Q
                  (subst Q; go_wp2_with fail; go_ret; exact ⟨rfl, hW⟩)
              · have d : (sx == 0) = false := beq_eq_false_iff_ne.2 hz
                rw [decide_eq_false hz, Bool.false_and] at Q
                (subst Q; go_wp2_with fail; go_ret; exact ⟨rfl, hW⟩)
            · rw [if_neg t17] at Q
              have d17 : (tag == 17) = false := beq_eq_false_iff_ne.2 t17
              by_cases t20 : tag = 20
              · subst t20
                rw [if_pos rfl] at Q
                by_cases hz : sx = 4607182418800017408
                · subst hz
                  by_cases ho : sy = 0
                  · subst ho
                    simp at Q
                    (subst Q; go_wp2_with fail; go_ret; exact ⟨rfl, hW⟩)
                  · have d : (sy == 0) = false := beq_eq_false_iff_ne.2 ho
                    rw [decide_eq_false ho, Bool.and_false] at Q
                    (subst Q; go_wp2_with fail; go_ret; exact ⟨rfl, hW⟩)
                · have d : (sx == 4607182418800017408) = false := beq_eq_false_iff_ne.2 hz
                  rw [decide_eq_false hz, Bool.false_and] at Q
                  (subst Q; go_wp2_with fail; go_ret; exact ⟨rfl, hW⟩)
              · rw [if_neg t20] at Q
                have d20 : (tag == 20) = false := beq_eq_false_iff_ne.2 t20
                (subst Q; go_wp2_with fail; go_ret; exact ⟨rfl, hW⟩)
set_option maxHeartbeats 2000000 in
theorem tsingular (tag x y u v : Int) (w : World) (hx : Wd x) (hy : Wd y) (hu : Wd u) (hv : Wd v) :
    Calls Try.prog 17 #[.int .i64 tag, .agg #[.int .u64 x, .int .u64 y, .int .u64 u, .int .u64 v]] w fun r w' => r = .returned (.bool (singZ tag x y u v)) ∧ Below w.heap.size w w' := by
  have b1 := below_alloc (below_self w) (.cells #[.int .u64 x, .int .u64 y, .int .u64 u, .int .u64 v] 24)
  have bx := box_new w #[.int .u64 x, .int .u64 y, .int .u64 u, .int .u64 v] 24
  have PN := tnumbers tag x y u v (w.alloc (.cells #[.int .u64 x, .int .u64 y, .int .u64 u, .int .u64 v] 24)) hx hy hu hv
  unfold singZ
  cases hn : numsI tag x y u v
  · rw [hn] at PN
    have PN := Lib.hid PN
    rw [Bool.false_and]
    clear hn
    obtain ⟨k0, k1, k2, k3⟩ := bx.cell4
    go_enter Try.func17, Try.ntmps17
    go_wp2_with fail
    refine PN.out.mono ?_; rintro r w3 ⟨rfl, hb3⟩
    go_wp2_with fail
    go_ret
    exact ⟨rfl, below_on b1 hb3⟩
  · rw [hn] at PN
    rw [Bool.true_and]
    have PN := Lib.hid PN
    have ZX := fun w => tzero11 x w hx.1 hx.2
    have ZY := fun w => tzero11 y w hy.1 hy.2
    have ZU := fun w => tzero11 u w hu.1 hu.2
    have ZV := fun w => tzero11 v w hv.1 hv.2
    have OX := fun w => tone x w hx.1 hx.2
    have OY := fun w => tone y w hy.1 hy.2
    generalize isZero x = zx at *
    generalize isZero y = zy at *
    generalize isZero u = zu at *
    generalize isZero v = zv at *
    generalize isOne x = ox at *
    generalize isOne y = oy at *
    have ZX := Lib.hid ZX
    have ZY := Lib.hid ZY
    have ZU := Lib.hid ZU
    have ZV := Lib.hid ZV
    have OX := Lib.hid OX
    have OY := Lib.hid OY
    clear hn
    obtain ⟨k0, k1, k2, k3⟩ := bx.cell4
    by_cases t5 : tag = 5
    · subst t5
      rw [if_pos rfl]
      cases zu
      all_goals
        go_enter Try.func17, Try.ntmps17
        go_wp2_with fail
        refine PN.out.mono ?_; rintro r w3 ⟨rfl, hb3⟩
        have hw3 := below_on b1 hb3
        clear k0 k1 k2 k3
        obtain ⟨k0, k1, k2, k3⟩ := (bx.later hb3).cell4
        go_wp2_with (first | (go_at_call_of 32 (Value.int .u64 u); refine (ZU.out _).mono ?_; rintro r w' ⟨rfl, rfl⟩) | (go_at_call_of 32 (Value.int .u64 v); refine (ZV.out _).mono ?_; rintro r w' ⟨rfl, rfl⟩))
        go_ret
        exact ⟨rfl, hw3⟩
    · rw [if_neg t5]
      have d5 : (tag == 5) = false := beq_eq_false_iff_ne.2 t5
      by_cases t8 : tag = 8
      · subst t8
        rw [if_pos rfl]
        cases zx
        all_goals
          go_enter Try.func17, Try.ntmps17
          go_wp2_with fail
          refine PN.out.mono ?_; rintro r w3 ⟨rfl, hb3⟩
          have hw3 := below_on b1 hb3
          clear k0 k1 k2 k3
          obtain ⟨k0, k1, k2, k3⟩ := (bx.later hb3).cell4
          go_wp2_with (first | (go_at_call_of 32 (Value.int .u64 x); refine (ZX.out _).mono ?_; rintro r w' ⟨rfl, rfl⟩) | (go_at_call_of 32 (Value.int .u64 y); refine (ZY.out _).mono ?_; rintro r w' ⟨rfl, rfl⟩))
          go_ret
          exact ⟨rfl, hw3⟩
      · rw [if_neg t8]
        have d8 : (tag == 8) = false := beq_eq_false_iff_ne.2 t8
        by_cases t17 : tag = 17
        · subst t17
          rw [if_pos rfl]
          cases zx
          all_goals
            go_enter Try.func17, Try.ntmps17
            go_wp2_with fail
            refine PN.out.mono ?_; rintro r w3 ⟨rfl, hb3⟩
            have hw3 := below_on b1 hb3
            clear k0 k1 k2 k3
            obtain ⟨k0, k1, k2, k3⟩ := (bx.later hb3).cell4
            go_wp2_with (first | (go_at_call_of 32 (Value.int .u64 x); refine (ZX.out _).mono ?_; rintro r w' ⟨rfl, rfl⟩) | (go_at_call_of 33 (Value.int .u64 y); refine (OY.out _).mono ?_; rintro r w' ⟨rfl, rfl⟩))
            go_ret
            exact ⟨rfl, hw3⟩
        · rw [if_neg t17]
          have d17 : (tag == 17) = false := beq_eq_false_iff_ne.2 t17
          by_cases t20 : tag = 20
          · subst t20
            rw [if_pos rfl]
            cases ox
            all_goals
              go_enter Try.func17, Try.ntmps17
              go_wp2_with fail
              refine PN.out.mono ?_; rintro r w3 ⟨rfl, hb3⟩
              have hw3 := below_on b1 hb3
              clear k0 k1 k2 k3
              obtain ⟨k0, k1, k2, k3⟩ := (bx.later hb3).cell4
              go_wp2_with (first | (go_at_call_of 33 (Value.int .u64 x); refine (OX.out _).mono ?_; rintro r w' ⟨rfl, rfl⟩) | (go_at_call_of 32 (Value.int .u64 y); refine (ZY.out _).mono ?_; rintro r w' ⟨rfl, rfl⟩))
              go_ret
              exact ⟨rfl, hw3⟩
          · rw [if_neg t20]
            have d20 : (tag == 20) = false := beq_eq_false_iff_ne.2 t20
            go_enter Try.func17, Try.ntmps17
            go_wp2_with fail
            refine PN.out.mono ?_; rintro r w3 ⟨rfl, hb3⟩
            have hw3 := below_on b1 hb3
            clear k0 k1 k2 k3
            obtain ⟨k0, k1, k2, k3⟩ := (bx.later hb3).cell4
            go_wp2_with fail
            go_ret
            exact ⟨rfl, hw3⟩
end Go.Proofs.Ytbfnjjnnlbchgaa
