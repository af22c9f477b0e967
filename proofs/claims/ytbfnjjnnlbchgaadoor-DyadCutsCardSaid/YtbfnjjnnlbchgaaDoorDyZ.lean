/- The law DyadCuts. -/
import Derived.Test.YtbfnjjnnlbchgaaDoorMS
import Derived.Test.YtbfnjjnnlbchgaaDoorMP
namespace Go.Proofs.YtbfnjjnnlbchgaaDoor
open Go.RowKit Num
set_option linter.unusedSimpArgs false
set_option linter.unusedVariables false
set_option maxRecDepth 100000

set_option maxHeartbeats 4000000 in
theorem dyadCuts (p q : Bool) (A A' : Option Addr) (n c n' c' : Nat) (xs ys : List Int) (e f P : Int) (up : Bool) (w : World) (h : Arr w A n c xs) (h' : Arr w A' n' c' ys) (hT : Tz w) :
    Calls Tryd.prog 8 #[.agg #[.bool p, .slice A n c, .int .i64 e], .agg #[.bool q, .slice A' n' c', .int .i64 f], .agg #[.int .i64 P, .bool up]] w fun r w' => r = .returned (.bool true) ∧ Below w.heap.size w w' := by
  have b1 : Below w.heap.size w (((w.alloc (.cells #[.bool p, .slice A n c, .int .i64 e] 24)).alloc (.cells #[.bool q, .slice A' n' c', .int .i64 f] 24)).alloc (.cells #[.int .i64 P, .bool up] 50)) := below_alloc (below_alloc (below_alloc (below_self w) _) _) _
  have xa := ((box_new w #[.bool p, .slice A n c, .int .i64 e] 24).later (below_alloc (below_self _) (.cells #[.bool q, .slice A' n' c', .int .i64 f] 24))).later (below_alloc (below_self _) (.cells #[.int .i64 P, .bool up] 50))
  have xb := (box_new (w.alloc (.cells #[.bool p, .slice A n c, .int .i64 e] 24)) #[.bool q, .slice A' n' c', .int .i64 f] 24).later (below_alloc (below_self _) (.cells #[.int .i64 P, .bool up] 50))
  rw [show (w.alloc (.cells #[.bool p, .slice A n c, .int .i64 e] 24)).heap.size = w.heap.size + 1 by simp] at xb
  have xj := box_new ((w.alloc (.cells #[.bool p, .slice A n c, .int .i64 e] 24)).alloc (.cells #[.bool q, .slice A' n' c', .int .i64 f] 24)) #[.int .i64 P, .bool up] 50
  rw [show ((w.alloc (.cells #[.bool p, .slice A n c, .int .i64 e] 24)).alloc (.cells #[.bool q, .slice A' n' c', .int .i64 f] 24)).heap.size = w.heap.size + 1 + 1 by simp] at xj
  have AW := Lib.hid (awake02 _ (hT.below b1))
  have FW := fun w3 (hb : Below (((w.alloc (.cells #[.bool p, .slice A n c, .int .i64 e] 24)).alloc (.cells #[.bool q, .slice A' n' c', .int .i64 f] 24)).alloc (.cells #[.int .i64 P, .bool up] 50)).heap.size (((w.alloc (.cells #[.bool p, .slice A n c, .int .i64 e] 24)).alloc (.cells #[.bool q, .slice A' n' c', .int .i64 f] 24)).alloc (.cells #[.int .i64 P, .bool up] 50)) w3) => few_two p q A A' n c n' c' xs ys e f w3 (h.below (below_on b1 hb)) (h'.below (below_on b1 hb))
  (obtain ⟨k0, k1, k2, f0, f1, f2⟩ := xa.cell3)
  (obtain ⟨j0, j1, j2, g0, g1, g2⟩ := xb.cell3)
  (have u0 := xj.cell 0; have u1 := xj.cell 1)
  cases hf : fewD ⟨p, A, n, c, xs, e⟩ && fewD ⟨q, A', n', c', ys, f⟩
  · rw [hf] at FW
    have FW := Lib.hid FW
    clear hf
    go_enter Tryd.func8, Tryd.ntmps8
    go_wp2_with fail
    refine AW.out.mono ?_; rintro r w3 ⟨rfl, hb3⟩
    (have xa := xa.later hb3; have xb := xb.later hb3; have xj := xj.later hb3)
    (clear k0 k1 k2 f0 f1 f2 j0 j1 j2 g0 g1 g2 u0 u1)
    (obtain ⟨k0, k1, k2, f0, f1, f2⟩ := xa.cell3)
    (obtain ⟨j0, j1, j2, g0, g1, g2⟩ := xb.cell3)
    (have u0 := xj.cell 0; have u1 := xj.cell 1)
    go_wp2_with fail
    refine (FW.out w3 hb3).mono ?_; rintro r w4 ⟨rfl, hb4⟩
    (have xa := xa.later hb4; have xb := xb.later hb4; have xj := xj.later hb4)
    (clear k0 k1 k2 f0 f1 f2 j0 j1 j2 g0 g1 g2 u0 u1)
    (have u0 := xj.cell 0; have u1 := xj.cell 1)
    go_wp2_with fail
    go_ret
    exact ⟨rfl, below_on b1 (below_on hb3 hb4)⟩
  · rw [hf] at FW
    have FW := Lib.hid FW
    rw [Bool.and_eq_true] at hf
    have hn := (fewD_parts hf.1).1
    have hn' := (fewD_parts hf.2).1
    simp only at hn hn'
    clear hf
    by_cases hP : 600 < P ∧ P ≤ 8192
    · have d1 : decide (P > 600) = true := decide_eq_true hP.1
      have d2 : decide (P ≤ 8192) = true := decide_eq_true hP.2
      go_enter Tryd.func8, Tryd.ntmps8
      go_wp2_with fail
      refine AW.out.mono ?_; rintro r w3 ⟨rfl, hb3⟩
      (have xa := xa.later hb3; have xb := xb.later hb3; have xj := xj.later hb3)
      (clear k0 k1 k2 f0 f1 f2 j0 j1 j2 g0 g1 g2 u0 u1)
      (obtain ⟨k0, k1, k2, f0, f1, f2⟩ := xa.cell3)
      (obtain ⟨j0, j1, j2, g0, g1, g2⟩ := xb.cell3)
      (have u0 := xj.cell 0; have u1 := xj.cell 1)
      go_wp2_with fail
      refine (FW.out w3 hb3).mono ?_; rintro r w4 ⟨rfl, hb4⟩
      (have xa := xa.later hb4; have xb := xb.later hb4; have xj := xj.later hb4)
      (clear k0 k1 k2 f0 f1 f2 j0 j1 j2 g0 g1 g2 u0 u1)
      (have u0 := xj.cell 0; have u1 := xj.cell 1)
      go_wp2_with fail
      go_ret
      exact ⟨rfl, below_on b1 (below_on hb3 hb4)⟩
    · have hd : (decide (P > 600) = false) ∨ (decide (P > 600) = true ∧ decide (P ≤ 8192) = false) := by
        by_cases h6 : 600 < P
        · exact .inr ⟨decide_eq_true h6, decide_eq_false (by omega)⟩
        · exact .inl (decide_eq_false h6)
      have CD := fun w3 (hb : Below (((w.alloc (.cells #[.bool p, .slice A n c, .int .i64 e] 24)).alloc (.cells #[.bool q, .slice A' n' c', .int .i64 f] 24)).alloc (.cells #[.int .i64 P, .bool up] 50)).heap.size (((w.alloc (.cells #[.bool p, .slice A n c, .int .i64 e] 24)).alloc (.cells #[.bool q, .slice A' n' c', .int .i64 f] 24)).alloc (.cells #[.int .i64 P, .bool up] 50)) w3) => dCut p A n c xs e P up w3 (h.below (below_on b1 hb)) (hT.below (below_on b1 hb))
      have CR := fun w3 (hb : Below (((w.alloc (.cells #[.bool p, .slice A n c, .int .i64 e] 24)).alloc (.cells #[.bool q, .slice A' n' c', .int .i64 f] 24)).alloc (.cells #[.int .i64 P, .bool up] 50)).heap.size (((w.alloc (.cells #[.bool p, .slice A n c, .int .i64 e] 24)).alloc (.cells #[.bool q, .slice A' n' c', .int .i64 f] 24)).alloc (.cells #[.int .i64 P, .bool up] 50)) w3) => rCut p A n c xs e P up w3 (h.below (below_on b1 hb)) (by omega)
      have OD := fun w3 (hb : Below (((w.alloc (.cells #[.bool p, .slice A n c, .int .i64 e] 24)).alloc (.cells #[.bool q, .slice A' n' c', .int .i64 f] 24)).alloc (.cells #[.int .i64 P, .bool up] 50)).heap.size (((w.alloc (.cells #[.bool p, .slice A n c, .int .i64 e] 24)).alloc (.cells #[.bool q, .slice A' n' c', .int .i64 f] 24)).alloc (.cells #[.int .i64 P, .bool up] 50)) w3) => dover p q A A' n c n' c' xs ys e f P up w3 (h.below (below_on b1 hb)) (h'.below (below_on b1 hb)) (hT.below (below_on b1 hb))
      have OR := fun w3 (hb : Below (((w.alloc (.cells #[.bool p, .slice A n c, .int .i64 e] 24)).alloc (.cells #[.bool q, .slice A' n' c', .int .i64 f] 24)).alloc (.cells #[.int .i64 P, .bool up] 50)).heap.size (((w.alloc (.cells #[.bool p, .slice A n c, .int .i64 e] 24)).alloc (.cells #[.bool q, .slice A' n' c', .int .i64 f] 24)).alloc (.cells #[.int .i64 P, .bool up] 50)) w3) => rover p q A A' n c n' c' xs ys e f P up w3 (h.below (below_on b1 hb)) (h'.below (below_on b1 hb)) (by omega) (by omega)
      generalize cutO p xs e P up = o1 at *
      generalize overD p q xs ys e f P up = o2 at *
      unfold RetD at CD CR OD OR
      generalize (optD o1).neg = s1 at *
      generalize (optD o1).e = e1 at *
      generalize (optD o1).m = m1 at *
      generalize o1.isSome = k1s at *
      generalize (optD o2).neg = s2 at *
      generalize (optD o2).e = e2 at *
      generalize (optD o2).m = m2 at *
      generalize o2.isSome = k2s at *
      have CD := Lib.hid CD
      have CR := Lib.hid CR
      have OD := Lib.hid OD
      have OR := Lib.hid OR
      clear hP h h'
      rcases hd with hd | ⟨hd, hd'⟩
      all_goals
        go_enter Tryd.func8, Tryd.ntmps8
        go_wp2_with fail
        refine AW.out.mono ?_; rintro r w3 ⟨rfl, hb3⟩
        (have xa := xa.later hb3; have xb := xb.later hb3; have xj := xj.later hb3)
        (clear k0 k1 k2 f0 f1 f2 j0 j1 j2 g0 g1 g2 u0 u1)
        (obtain ⟨k0, k1, k2, f0, f1, f2⟩ := xa.cell3)
        (obtain ⟨j0, j1, j2, g0, g1, g2⟩ := xb.cell3)
        (have u0 := xj.cell 0; have u1 := xj.cell 1)
        go_wp2_with fail
        refine (FW.out w3 hb3).mono ?_; rintro r w4 ⟨rfl, hb4⟩
        (have xa := xa.later hb4; have xb := xb.later hb4; have xj := xj.later hb4)
        have hb4 := below_on hb3 hb4
        (clear k0 k1 k2 f0 f1 f2 j0 j1 j2 g0 g1 g2 u0 u1)
        (obtain ⟨k0, k1, k2, f0, f1, f2⟩ := xa.cell3)
        (obtain ⟨j0, j1, j2, g0, g1, g2⟩ := xb.cell3)
        (have u0 := xj.cell 0; have u1 := xj.cell 1)
        go_wp2_with fail
        refine (CD.out w4 hb4).mono ?_; rintro r w5 ⟨A5, n5, c5, rfl, h5, hb5⟩
        have b5' := below_alloc hb5 (.cells #[.bool s1, .slice A5 n5 c5, .int .i64 e1] 24)
        have h5 := h5.below (below_alloc (below_self w5) (.cells #[.bool s1, .slice A5 n5 c5, .int .i64 e1] 24))
        have x5 := box_new w5 #[.bool s1, .slice A5 n5 c5, .int .i64 e1] 24
        have hb5 := below_on hb4 b5'
        (have xa := xa.later b5'; have xb := xb.later b5'; have xj := xj.later b5')
        clear b5'
        (clear k0 k1 k2 f0 f1 f2 j0 j1 j2 g0 g1 g2 u0 u1)
        (obtain ⟨k0, k1, k2, f0, f1, f2⟩ := xa.cell3)
        (obtain ⟨j0, j1, j2, g0, g1, g2⟩ := xb.cell3)
        (have u0 := xj.cell 0; have u1 := xj.cell 1)
        go_wp2_with fail
        refine (CR.out _ hb5).mono ?_; rintro r w6 ⟨A6, n6, c6, rfl, h6, hb6⟩
        have b6' := below_alloc hb6 (.cells #[.bool s1, .slice A6 n6 c6, .int .i64 e1] 24)
        have h5 := h5.below b6'
        have x5 := x5.later b6'
        have h6 := h6.below (below_alloc (below_self w6) (.cells #[.bool s1, .slice A6 n6 c6, .int .i64 e1] 24))
        have x6 := box_new w6 #[.bool s1, .slice A6 n6 c6, .int .i64 e1] 24
        have hb6 := below_on hb5 b6'
        (have xa := xa.later b6'; have xb := xb.later b6'; have xj := xj.later b6')
        clear b6'
        (clear k0 k1 k2 f0 f1 f2 j0 j1 j2 g0 g1 g2 u0 u1)
        (obtain ⟨k0, k1, k2, f0, f1, f2⟩ := xa.cell3)
        (obtain ⟨j0, j1, j2, g0, g1, g2⟩ := xb.cell3)
        (have u0 := xj.cell 0; have u1 := xj.cell 1)
        go_wp2_with fail
        refine (OD.out _ hb6).mono ?_; rintro r w7 ⟨A7, n7, c7, rfl, h7, hb7⟩
        have b7' := below_alloc hb7 (.cells #[.bool s2, .slice A7 n7 c7, .int .i64 e2] 24)
        have h5 := h5.below b7'
        have x5 := x5.later b7'
        have h6 := h6.below b7'
        have x6 := x6.later b7'
        have h7 := h7.below (below_alloc (below_self w7) (.cells #[.bool s2, .slice A7 n7 c7, .int .i64 e2] 24))
        have x7 := box_new w7 #[.bool s2, .slice A7 n7 c7, .int .i64 e2] 24
        have hb7 := below_on hb6 b7'
        (have xa := xa.later b7'; have xb := xb.later b7'; have xj := xj.later b7')
        clear b7'
        (clear k0 k1 k2 f0 f1 f2 j0 j1 j2 g0 g1 g2 u0 u1)
        (obtain ⟨k0, k1, k2, f0, f1, f2⟩ := xa.cell3)
        (obtain ⟨j0, j1, j2, g0, g1, g2⟩ := xb.cell3)
        (have u0 := xj.cell 0; have u1 := xj.cell 1)
        go_wp2_with fail
        refine (OR.out _ hb7).mono ?_; rintro r w8 ⟨A8, n8, c8, rfl, h8, hb8⟩
        have b8' := below_alloc hb8 (.cells #[.bool s2, .slice A8 n8 c8, .int .i64 e2] 24)
        have h5 := h5.below b8'
        have x5 := x5.later b8'
        have h6 := h6.below b8'
        have x6 := x6.later b8'
        have h7 := h7.below b8'
        have x7 := x7.later b8'
        have h8 := h8.below (below_alloc (below_self w8) (.cells #[.bool s2, .slice A8 n8 c8, .int .i64 e2] 24))
        have x8 := box_new w8 #[.bool s2, .slice A8 n8 c8, .int .i64 e2] 24
        have hb8 := below_on hb7 b8'
        clear b8'
        (clear k0 k1 k2 f0 f1 f2 j0 j1 j2 g0 g1 g2 u0 u1)
        have S1 := dboth s1 A5 A6 n5 c5 n6 c6 _ e1 k1s _ h5 h6
        have S2 := fun w9 (hb : Below (w8.alloc (.cells #[.bool s2, .slice A8 n8 c8, .int .i64 e2] 24)).heap.size (w8.alloc (.cells #[.bool s2, .slice A8 n8 c8, .int .i64 e2] 24)) w9) => dboth s2 A7 A8 n7 c7 n8 c8 _ e2 k2s w9 (h7.below hb) (h8.below hb)
        have S1 := Lib.hid S1
        have S2 := Lib.hid S2
        obtain ⟨k0, k1, k2, f0, f1, f2⟩ := x5.cell3
        obtain ⟨j0, j1, j2, g0, g1, g2⟩ := x6.cell3
        go_wp2_with fail
        refine S1.out.mono ?_; rintro r w9 ⟨rfl, hb9⟩
        clear k0 k1 k2 f0 f1 f2 j0 j1 j2 g0 g1 g2
        obtain ⟨k0, k1, k2, f0, f1, f2⟩ := (x7.later hb9).cell3
        obtain ⟨j0, j1, j2, g0, g1, g2⟩ := (x8.later hb9).cell3
        go_wp2_with fail
        refine (S2.out w9 hb9).mono ?_; rintro r w10 ⟨rfl, hb10⟩
        go_wp2_with fail
        go_ret
        exact ⟨rfl, below_on b1 (below_on (below_on hb8 hb9) hb10)⟩
end Go.Proofs.YtbfnjjnnlbchgaaDoor
