/- The law SpecialPairs. -/
import Derived.Test.YtbfnjjnnlbchgaaSpN
namespace Go.Proofs.Ytbfnjjnnlbchgaa
open Go.RowKit Num
set_option linter.unusedSimpArgs false
set_option linter.unusedVariables false
set_option maxRecDepth 100000

theorem pairs_out (tag x y u v : Int) (w : World) (hx : Wd x) (hy : Wd y) (hu : Wd u) (hv : Wd v) (h : tag = 4 ∨ tag = 5 ∨ tag = 0) :
    Calls Try.prog 5 #[.int .i64 tag, .agg #[.int .u64 x, .int .u64 y, .int .u64 u, .int .u64 v]] w fun r w' => r = .returned (.bool true) ∧ Below w.heap.size w w' := by
  have b1 := below_alloc (below_self w) (.cells #[.int .u64 x, .int .u64 y, .int .u64 u, .int .u64 v] 24)
  have AW := Lib.hid (awake13 (w.alloc (.cells #[.int .u64 x, .int .u64 y, .int .u64 u, .int .u64 v] 24)))
  rcases h with rfl | rfl | rfl
  all_goals
    go_enter Try.func5, Try.ntmps5
    go_wp2_with fail
    refine AW.out.mono ?_; rintro r w1 ⟨rfl, hb1⟩
    go_wp2_with fail
    go_ret
    exact ⟨rfl, below_on b1 hb1⟩
set_option maxHeartbeats 4000000 in
theorem specialPairs (tag x y u v : Int) (w : World) (hx : Wd x) (hy : Wd y) (hu : Wd u) (hv : Wd v) :
    Calls Try.prog 5 #[.int .i64 tag, .agg #[.int .u64 x, .int .u64 y, .int .u64 u, .int .u64 v]] w fun r w' => r = .returned (.bool true) ∧ Below w.heap.size w w' := by
  by_cases h4 : tag = 4
  · exact pairs_out tag x y u v w hx hy hu hv (.inl h4)
  by_cases h5 : tag = 5
  · exact pairs_out tag x y u v w hx hy hu hv (.inr (.inl h5))
  by_cases h0 : tag = 0
  · exact pairs_out tag x y u v w hx hy hu hv (.inr (.inr h0))
  have PS := pair_spec tag x y u v hx hy h0 h4 h5
  have ONE := one_spec tag x y u v hx hy
  have S := fun w => spspecial tag x y u v w hx hy hu hv
  have S2 := fun w => spspecial tag x (fl y) u v w hx (fl_wd y) hu hv
  have xy : bits .xor .u64 y 9223372036854775808 = fl y := xor_top hy.1 hy.2
  have e4 : (tag == 4) = false := beq_eq_false_iff_ne.2 h4
  have e5 : (tag == 5) = false := beq_eq_false_iff_ne.2 h5
  have e0 : (tag == 0) = false := beq_eq_false_iff_ne.2 h0
  clear h4 h5 h0
  have b1 := below_alloc (below_self w) (.cells #[.int .u64 x, .int .u64 y, .int .u64 u, .int .u64 v] 24)
  have bz := box_new w #[.int .u64 x, .int .u64 y, .int .u64 u, .int .u64 v] 24
  have AW := Lib.hid (awake13 (w.alloc (.cells #[.int .u64 x, .int .u64 y, .int .u64 u, .int .u64 v] 24)))
  unfold RetT at S S2
  generalize specI tag x y u v = s at *
  generalize specI tag x (fl y) u v = t at *
  generalize hfy : fl y = fy at *
  clear hfy
  obtain ⟨s1, s2, s3, s4⟩ := s
  obtain ⟨t1, t2, t3, t4⟩ := t
  simp only at S S2
  have S := Lib.hid S
  have S2 := Lib.hid S2
  have HP := Lib.hid PS
  have HO := Lib.hid ONE
  clear PS ONE
  go_enter Try.func5, Try.ntmps5
  go_wp2_with fail
  refine AW.out.mono ?_; rintro r w1 ⟨rfl, hb1⟩
  obtain ⟨k0, k1, k2, k3⟩ := (bz.later hb1).cell4
  go_wp2_with fail
  refine (S.out w1).mono ?_; rintro r w2 ⟨rfl, hb2⟩
  have hb2' := below_alloc hb2 (.cells #[.int .u64 s1, .int .u64 s2] 26)
  have x2 := box_new w2 #[.int .u64 s1, .int .u64 s2] 26
  have bz2 := (bz.later hb1).later hb2'
  clear k0 k1 k2 k3
  obtain ⟨k0, k1, k2, k3⟩ := bz2.cell4
  have hW := below_on b1 (below_on hb1 hb2')
  generalize hw3 : w2.alloc (.cells #[.int .u64 s1, .int .u64 s2] 26) = w3 at *
  have hsz3 : w3.heap.size = w2.heap.size + 1 := by rw [← hw3]; simp
  have y3 := box_new w3 #[.int .u64 x, .int .u64 y, .int .u64 u, .int .u64 v] 24
  have yk0 := y3.cell 0
  have yk1 := y3.cell 1
  have yk2 := y3.cell 2
  have yk3 := y3.cell 3
  have yf1 := y3.free 1
  have x3 := x2.later (below_alloc (below_self w3) (.cells #[.int .u64 x, .int .u64 fy, .int .u64 u, .int .u64 v] 24))
  have hW4 := below_alloc hW (.cells #[.int .u64 x, .int .u64 fy, .int .u64 u, .int .u64 v] 24)
  go_wp2_with fail
  refine (S2.out _).mono ?_; rintro r w4 ⟨rfl, hb4⟩
  have hb4' := below_alloc hb4 (.cells #[.int .u64 t1, .int .u64 t2] 26)
  have x5 := x3.later hb4'
  have z5 := box_new w4 #[.int .u64 t1, .int .u64 t2] 26
  have hbb := below_on hW4 hb4'
  clear k0 k1 k2 k3 yk0 yk1 yk2 yk3 yf1 xy
  have c0 := x5.cell 0
  have c1 := x5.cell 1
  have d0 := z5.cell 0
  have d1 := z5.cell 1
  rcases HP.out with ⟨p, q⟩ | ⟨rfl, p, q⟩
  · simp only [Prod.mk.injEq] at p q
    obtain ⟨rfl, rfl, rfl, rfl⟩ := p
    obtain ⟨rfl, rfl, rfl, rfl⟩ := q
    by_cases h1 : tag = 1
    · subst h1
      (go_wp2_with fail; go_quiet (fail); go_wp2_with fail; go_ret; exact ⟨by simp, below_drewN hbb _⟩)
    · have e1 : (tag == 1) = false := beq_eq_false_iff_ne.2 h1
      have e1' : (tag != 1) = true := by simp [h1]
      clear h1
      (go_wp2_with fail; go_quiet (fail); go_wp2_with fail; go_ret; exact ⟨by simp, below_drewN hbb _⟩)
  · simp only at p q
    obtain rfl : t4 = true := p
    have gd : Good s1 ∧ Good s2 := by
      rcases HO.out with h | h
      · simp only [Prod.mk.injEq] at h; exact absurd h.2.2.2 (by simp)
      · exact ⟨h.2.1, h.2.2.1⟩
    obtain ⟨q3, qq⟩ := q trivial
    clear q
    obtain rfl : t3 = s3 := q3
    have X1 : bits .xor .u64 s1 9223372036854775808 = fl s1 := xor_top gd.1.1.1 gd.1.1.2
    have X2 : bits .xor .u64 s2 9223372036854775808 = fl s2 := xor_top gd.2.1.1 gd.2.1.2
    clear gd
    rcases qq with ⟨rfl, q1, q2⟩ | ⟨h1, q1, q2⟩
    · obtain rfl : t2 = s2 := q1
      rcases q2 with ⟨rfl, rfl⟩ | ⟨hn, rfl⟩
      · clear X1 X2
        (go_wp2_with fail; go_quiet (fail); go_wp2_with fail; go_ret; exact ⟨by simp, below_drewN hbb _⟩)
      · have en : (s1 == 9221120237041090560) = false := beq_eq_false_iff_ne.2 hn
        have en' : (s1 != 9221120237041090560) = true := by simp [hn]
        clear hn X2
        (go_wp2_with fail; go_quiet (fail); go_wp2_with fail; go_ret; exact ⟨by simp, below_drewN hbb _⟩)
    · have e1 : (tag == 1) = false := beq_eq_false_iff_ne.2 h1
      have e1' : (tag != 1) = true := by simp [h1]
      obtain rfl : t1 = s1 := q1
      rcases q2 with ⟨rfl, rfl⟩ | ⟨hn, rfl⟩
      · clear X1 X2
        (go_wp2_with fail; go_quiet (fail); go_wp2_with fail; go_ret; exact ⟨by simp, below_drewN hbb _⟩)
      · have en : (s2 == 9221120237041090560) = false := beq_eq_false_iff_ne.2 hn
        have en' : (s2 != 9221120237041090560) = true := by simp [hn]
        clear hn X1
        (go_wp2_with fail; go_quiet (fail); go_wp2_with fail; go_ret; exact ⟨by simp, below_drewN hbb _⟩)
end Go.Proofs.Ytbfnjjnnlbchgaa
