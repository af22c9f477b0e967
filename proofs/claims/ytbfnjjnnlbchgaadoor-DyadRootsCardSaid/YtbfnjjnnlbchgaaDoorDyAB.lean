/- The law DyadRoots. -/
import Derived.Test.YtbfnjjnnlbchgaaDoorDyAA
import Derived.Test.YtbfnjjnnlbchgaaDoorMS
import Derived.Test.YtbfnjjnnlbchgaaDoorMP
namespace Go.Proofs.YtbfnjjnnlbchgaaDoor
open Go.RowKit Num
set_option linter.unusedSimpArgs false
set_option linter.unusedVariables false
set_option maxRecDepth 100000

theorem dvs_one {W : World} (p : Bool) (A : Option Addr) (n c : Nat) (xs : List Int) (e : Int) (h : Arr W A n c xs) (t : TypeId) :
    DVs (W.alloc (.cells #[.bool p, .slice A n c, .int .i64 e] t)) W.heap.size [⟨p, A, n, c, xs, e⟩] := by
  have hb := below_alloc (below_self W) (.cells #[.bool p, .slice A n c, .int .i64 e] t)
  have bx := box_new W #[.bool p, .slice A n c, .int .i64 e] t
  refine ⟨bx.lt, fun j hj => ?_, fun j hj => ?_, fun j hj => ?_, fun j hj => ?_⟩
  all_goals
    obtain rfl : j = 0 := by simp at hj; omega
  · exact h.below hb
  all_goals exact bx.cell _
theorem few_one (p : Bool) (A : Option Addr) (n c : Nat) (xs : List Int) (e : Int) (w : World) (h : Arr w A n c xs) :
    Calls Tryd.prog 35 #[.slice (some ⟨w.heap.size, 0, none⟩) 1 1] (w.alloc (.cells #[.bool p, .slice A n c, .int .i64 e] 24)) fun r w' => r = .returned (.bool (fewD ⟨p, A, n, c, xs, e⟩)) ∧ Below w.heap.size w w' := by
  have D := dvs_one p A n c xs e h 24
  refine (few02 _ 1 1 _ rfl _ D.any (by decide)).mono ?_
  rintro r w' ⟨rfl, hb⟩
  exact ⟨by simp, below_on (below_alloc (below_self w) _) hb⟩
set_option maxHeartbeats 4000000 in
theorem dyadRoots (p : Bool) (A : Option Addr) (n c : Nat) (xs : List Int) (e P : Int) (up : Bool) (w : World) (h : Arr w A n c xs) (hT : Tz w) :
    Calls Tryd.prog 11 #[.agg #[.bool p, .slice A n c, .int .i64 e], .agg #[.int .i64 P, .bool up]] w fun r w' => r = .returned (.bool true) ∧ Below w.heap.size w w' := by
  have b1 : Below w.heap.size w ((w.alloc (.cells #[.bool p, .slice A n c, .int .i64 e] 24)).alloc (.cells #[.int .i64 P, .bool up] 50)) := below_alloc (below_alloc (below_self w) _) _
  have xa := (box_new w #[.bool p, .slice A n c, .int .i64 e] 24).later (below_alloc (below_self _) (.cells #[.int .i64 P, .bool up] 50))
  have xj := box_new (w.alloc (.cells #[.bool p, .slice A n c, .int .i64 e] 24)) #[.int .i64 P, .bool up] 50
  rw [show (w.alloc (.cells #[.bool p, .slice A n c, .int .i64 e] 24)).heap.size = w.heap.size + 1 by simp] at xj
  have AW := Lib.hid (awake02 _ (hT.below b1))
  have FW := fun w3 (hb : Below ((w.alloc (.cells #[.bool p, .slice A n c, .int .i64 e] 24)).alloc (.cells #[.int .i64 P, .bool up] 50)).heap.size ((w.alloc (.cells #[.bool p, .slice A n c, .int .i64 e] 24)).alloc (.cells #[.int .i64 P, .bool up] 50)) w3) => few_one p A n c xs e w3 (h.below (below_on b1 hb))
  (obtain ⟨k0, k1, k2, f0, f1, f2⟩ := xa.cell3)
  (have u0 := xj.cell 0; have u1 := xj.cell 1)
  cases hf : fewD ⟨p, A, n, c, xs, e⟩
  · rw [hf] at FW
    have FW := Lib.hid FW
    clear hf
    (go_enter Tryd.func11, Tryd.ntmps11; go_wp2_with fail; refine AW.out.mono ?_; rintro r w3 ⟨rfl, hb3⟩; (have xa := xa.later hb3; have xj := xj.later hb3); (clear k0 k1 k2 f0 f1 f2 u0 u1); (obtain ⟨k0, k1, k2, f0, f1, f2⟩ := xa.cell3); (have u0 := xj.cell 0; have u1 := xj.cell 1); go_wp2_with fail; refine (FW.out w3 hb3).mono ?_; rintro r w4 ⟨rfl, hb4⟩; (have xa := xa.later hb4; have xj := xj.later hb4); have hb4 := below_on hb3 hb4; (clear k0 k1 k2 f0 f1 f2 u0 u1); (obtain ⟨k0, k1, k2, f0, f1, f2⟩ := xa.cell3); (have u0 := xj.cell 0; have u1 := xj.cell 1); go_wp2_with fail)
    go_ret
    exact ⟨rfl, below_on b1 hb4⟩
  · rw [hf] at FW
    have FW := Lib.hid FW
    have hn := (fewD_parts hf).1
    simp only at hn
    clear hf
    by_cases hn10 : 10 < n
    · have d0 : decide ((n : Int) > 10) = true := by simp; omega
      (go_enter Tryd.func11, Tryd.ntmps11; go_wp2_with fail; refine AW.out.mono ?_; rintro r w3 ⟨rfl, hb3⟩; (have xa := xa.later hb3; have xj := xj.later hb3); (clear k0 k1 k2 f0 f1 f2 u0 u1); (obtain ⟨k0, k1, k2, f0, f1, f2⟩ := xa.cell3); (have u0 := xj.cell 0; have u1 := xj.cell 1); go_wp2_with fail; refine (FW.out w3 hb3).mono ?_; rintro r w4 ⟨rfl, hb4⟩; (have xa := xa.later hb4; have xj := xj.later hb4); have hb4 := below_on hb3 hb4; (clear k0 k1 k2 f0 f1 f2 u0 u1); (obtain ⟨k0, k1, k2, f0, f1, f2⟩ := xa.cell3); (have u0 := xj.cell 0; have u1 := xj.cell 1); go_wp2_with fail)
      go_ret
      exact ⟨rfl, below_on b1 hb4⟩
    · have d0 : decide ((n : Int) > 10) = false := by simp; omega
      by_cases hP : 300 < P ∧ P ≤ 8192
      · have d1 : decide (P > 300) = true := decide_eq_true hP.1
        have d2 : decide (P ≤ 8192) = true := decide_eq_true hP.2
        (go_enter Tryd.func11, Tryd.ntmps11; go_wp2_with fail; refine AW.out.mono ?_; rintro r w3 ⟨rfl, hb3⟩; (have xa := xa.later hb3; have xj := xj.later hb3); (clear k0 k1 k2 f0 f1 f2 u0 u1); (obtain ⟨k0, k1, k2, f0, f1, f2⟩ := xa.cell3); (have u0 := xj.cell 0; have u1 := xj.cell 1); go_wp2_with fail; refine (FW.out w3 hb3).mono ?_; rintro r w4 ⟨rfl, hb4⟩; (have xa := xa.later hb4; have xj := xj.later hb4); have hb4 := below_on hb3 hb4; (clear k0 k1 k2 f0 f1 f2 u0 u1); (obtain ⟨k0, k1, k2, f0, f1, f2⟩ := xa.cell3); (have u0 := xj.cell 0; have u1 := xj.cell 1); go_wp2_with fail)
        go_ret
        exact ⟨rfl, below_on b1 hb4⟩
      · have hd : (decide (P > 300) = false) ∨ (decide (P > 300) = true ∧ decide (P ≤ 8192) = false) := by
          by_cases h6 : 300 < P
          · exact .inr ⟨decide_eq_true h6, decide_eq_false (by omega)⟩
          · exact .inl (decide_eq_false h6)
        have CD := fun w3 (hb : Below ((w.alloc (.cells #[.bool p, .slice A n c, .int .i64 e] 24)).alloc (.cells #[.int .i64 P, .bool up] 50)).heap.size ((w.alloc (.cells #[.bool p, .slice A n c, .int .i64 e] 24)).alloc (.cells #[.int .i64 P, .bool up] 50)) w3) => dRoot p A n c xs e P up w3 (h.below (below_on b1 hb)) (hT.below (below_on b1 hb))
        have CR := fun w3 (hb : Below ((w.alloc (.cells #[.bool p, .slice A n c, .int .i64 e] 24)).alloc (.cells #[.int .i64 P, .bool up] 50)).heap.size ((w.alloc (.cells #[.bool p, .slice A n c, .int .i64 e] 24)).alloc (.cells #[.int .i64 P, .bool up] 50)) w3) => rRoot p A n c xs e P up w3 (h.below (below_on b1 hb)) (by omega)
        generalize rootD p xs e P up = o1 at *
        unfold RetD at CD CR
        generalize (optD o1).neg = s1 at *
        generalize (optD o1).e = e1 at *
        generalize (optD o1).m = m1 at *
        generalize o1.isSome = k1s at *
        have CD := Lib.hid CD
        have CR := Lib.hid CR
        clear hP h
        rcases hd with hd | ⟨hd, hd'⟩
        all_goals
          (go_enter Tryd.func11, Tryd.ntmps11; go_wp2_with fail; refine AW.out.mono ?_; rintro r w3 ⟨rfl, hb3⟩; (have xa := xa.later hb3; have xj := xj.later hb3); (clear k0 k1 k2 f0 f1 f2 u0 u1); (obtain ⟨k0, k1, k2, f0, f1, f2⟩ := xa.cell3); (have u0 := xj.cell 0; have u1 := xj.cell 1); go_wp2_with fail; refine (FW.out w3 hb3).mono ?_; rintro r w4 ⟨rfl, hb4⟩; (have xa := xa.later hb4; have xj := xj.later hb4); have hb4 := below_on hb3 hb4; (clear k0 k1 k2 f0 f1 f2 u0 u1); (obtain ⟨k0, k1, k2, f0, f1, f2⟩ := xa.cell3); (have u0 := xj.cell 0; have u1 := xj.cell 1); go_wp2_with fail)
          refine (CD.out w4 hb4).mono ?_; rintro r w5 ⟨A5, n5, c5, rfl, h5, hb5⟩
          have b5' := below_alloc hb5 (.cells #[.bool s1, .slice A5 n5 c5, .int .i64 e1] 24)
          have h5 := h5.below (below_alloc (below_self w5) (.cells #[.bool s1, .slice A5 n5 c5, .int .i64 e1] 24))
          have x5 := box_new w5 #[.bool s1, .slice A5 n5 c5, .int .i64 e1] 24
          have hb5 := below_on hb4 b5'
          (have xa := xa.later b5'; have xj := xj.later b5')
          clear b5'
          (clear k0 k1 k2 f0 f1 f2 u0 u1)
          (obtain ⟨k0, k1, k2, f0, f1, f2⟩ := xa.cell3)
          (have u0 := xj.cell 0; have u1 := xj.cell 1)
          go_wp2_with fail
          refine (CR.out _ hb5).mono ?_; rintro r w6 ⟨A6, n6, c6, rfl, h6, hb6⟩
          have b6' := below_alloc hb6 (.cells #[.bool s1, .slice A6 n6 c6, .int .i64 e1] 24)
          have h5 := h5.below b6'
          have x5 := x5.later b6'
          have h6 := h6.below (below_alloc (below_self w6) (.cells #[.bool s1, .slice A6 n6 c6, .int .i64 e1] 24))
          have x6 := box_new w6 #[.bool s1, .slice A6 n6 c6, .int .i64 e1] 24
          have hb6 := below_on hb5 b6'
          clear b6'
          (clear k0 k1 k2 f0 f1 f2 u0 u1)
          have S1 := dboth s1 A5 A6 n5 c5 n6 c6 _ e1 k1s _ h5 h6
          have S1 := Lib.hid S1
          obtain ⟨k0, k1, k2, f0, f1, f2⟩ := x5.cell3
          obtain ⟨j0, j1, j2, g0, g1, g2⟩ := x6.cell3
          go_wp2_with fail
          refine S1.out.mono ?_; rintro r w9 ⟨rfl, hb9⟩
          go_wp2_with fail
          go_ret
          exact ⟨rfl, below_on b1 (below_on hb6 hb9)⟩
end Go.Proofs.YtbfnjjnnlbchgaaDoor
