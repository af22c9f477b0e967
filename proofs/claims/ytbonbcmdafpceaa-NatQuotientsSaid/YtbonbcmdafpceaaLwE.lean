/- The law NatQuotients. -/
import Derived.Test.YtbonbcmdafpceaaLwD
import Derived.Test.YtbonbcmdafpceaaRefH
namespace Go.Proofs.Ytbonbcmdafpceaa
open Go.RowKit Num
set_option maxRecDepth 100000

set_option maxHeartbeats 1000000 in
theorem natQuotients (A A' : Option Addr) (n c n' c' : Nat) (xs ys : List Int) (w : World) (h : Arr w A n c xs) (h' : Arr w A' n' c' ys) :
    Calls Try.prog 6 #[.slice A n c, .slice A' n' c'] w fun r w' => r = .returned (.bool true) ∧ Below w.heap.size w w' := by
  have hcap := h.cap
  have hbig := h.big
  have hcap' := h'.cap
  have hbig' := h'.big
  by_cases g : n ≤ 60 ∧ n' ≤ 60
  · have hf : fewB 60 [(A, n, c), (A', n', c')] = true := by simp [fewB, g.1, g.2]
    obtain ⟨g1, g2⟩ := g
    go_enter Try.func6, Try.ntmps6
    go_wp2_with fail
    refine (awake01 w).mono ?_
    rintro r w1 ⟨rfl, b1⟩
    go_wp2_with fail
    have b2 := below_alloc b1 (.cells #[.slice A n c, .slice A' n' c'] 31)
    refine (few 60 w1.heap.size [(A, n, c), (A', n', c')] 2 rfl _ (by decide) (by decide) (box_list w1 _ _)).mono ?_
    rintro r w' ⟨rfl, rfl⟩
    rw [hf]
    clear hf
    have h2 := h.below b2
    go_wp2_with (at_builtin; refine wp_append rfl _ _ rfl w.heap.size _ 0 [] rfl (owns_empty ?m0 ?m3) A n c xs rfl (h2.below (below_alloc (below_self _) _)) n ?m1 ?m2 ?m4 ?_)
    case m0 => first | rfl | simp
    case m1 => omega
    case m2 => omega
    case m3 => have := b2.size; simp at this ⊢; omega
    case m4 => have := b2.size; simp at this ⊢; omega
    intro v' w3 hown hg
    obtain ⟨A3, c3, rfl, hO⟩ := own_of_owns hown h.wf
    have b3 : Below w.heap.size w w3 := (below_alloc b2 (.cells #[] 22)).trans (grown_below hg (by have := b2.size; simp at this ⊢; omega) (by
      intro q hq
      have := b1.size
      simp [Value.ownBlock] at hq
      omega))
    have x3 := hO.arr
    have h3' := h'.below b3
    clear hg hown hO h2
    go_wp2_with (at_builtin; refine wp_append rfl _ _ rfl w.heap.size _ 0 [] rfl (owns_empty ?m0 ?m3) A' n' c' ys rfl (h3'.below (below_alloc (below_self _) _)) n' ?m1 ?m2 ?m4 ?_)
    case m0 => first | rfl | simp
    case m1 => omega
    case m2 => omega
    case m3 => have := b3.size; omega
    case m4 => have := b3.size; simp at this ⊢; omega
    intro v' w4 hown hg
    obtain ⟨A4, c4, rfl, hO⟩ := own_of_owns hown h'.wf
    have b34 : Below w3.heap.size w3 w4 := (below_alloc (below_self w3) (.cells #[] 22)).trans (grown_below hg (by simp) (by
      intro q hq
      simp [Value.ownBlock] at hq
      omega))
    have b4 := below_on b3 b34
    have x4 := x3.below b34
    have y4 := hO.arr
    clear hg hown hO h3' x3 b34
    go_wp2_with fail
    refine (divmod A A' n c n' c' xs ys w4 (h.below b4) (h'.below b4) (by omega)).mono ?_
    rintro r w5 ⟨A5, n5, c5, B5, m5, d5, rfl, hq, hr, b5⟩
    have bw5 := below_on b4 b5
    have x5 := x4.below b5
    have y5 := y4.below b5
    go_wp2_with fail
    refine (rdivmod A3 A4 n c3 n' c4 xs ys w5 x5 y5 (by omega) (by omega)).mono ?_
    rintro r w6 ⟨A6, n6, c6, B6, m6, d6, rfl, hq6, hr6, b6⟩
    have bw6 := below_on bw5 b6
    have x6 := x5.below b6
    have y6 := y5.below b6
    have hq := hq.below b6
    have hr := hr.below b6
    generalize decide (0 < val ys) = q at *
    clear x4 x5 y4 y5 b5 b6
    go_wp2_with fail
    refine (same01 A5 A6 n5 c5 n6 c6 _ _ w6 hq hq6).mono ?_
    rintro r w7 ⟨rfl, s7⟩
    rw [decide_self]
    have bw7 := bw6.trans (s7.below _)
    have x7 := x6.below (s7.below _)
    have y7 := y6.below (s7.below _)
    have hr := hr.below (s7.below _)
    have hr6 := hr6.below (s7.below _)
    clear hq hq6 s7 x6 y6
    go_wp2_with fail
    refine (same01 B5 B6 m5 d5 m6 d6 _ _ w7 hr hr6).mono ?_
    rintro r w8 ⟨rfl, s8⟩
    rw [decide_self]
    have bw8 := bw7.trans (s8.below _)
    have x8 := x7.below (s8.below _)
    have y8 := y7.below (s8.below _)
    clear hr hr6 s8 x7 y7
    go_wp2_with fail
    refine (kept A A3 n c n c3 xs xs w8 (h.below bw8) x8).mono ?_
    rintro r w16 ⟨rfl, s16⟩
    rw [decide_self]
    have bw16 := bw8.trans (s16.below _)
    have y16 := y8.below (s16.below _)
    go_wp2_with fail
    refine (kept A' A4 n' c' n' c4 ys ys w16 (h'.below bw16) y16).mono ?_
    rintro r w17 ⟨rfl, s17⟩
    rw [decide_self]
    have bw17 := bw16.trans (s17.below _)
    go_wp2_with fail
    go_ret
    exact ⟨rfl, bw17⟩
  · have hf : fewB 60 [(A, n, c), (A', n', c')] = false := by simp [fewB]; omega
    go_enter Try.func6, Try.ntmps6
    go_wp2_with fail
    refine (awake01 w).mono ?_
    rintro r w1 ⟨rfl, b1⟩
    go_wp2_with fail
    have b2 := below_alloc b1 (.cells #[.slice A n c, .slice A' n' c'] 31)
    refine (few 60 w1.heap.size [(A, n, c), (A', n', c')] 2 rfl _ (by decide) (by decide) (box_list w1 _ _)).mono ?_
    rintro r w' ⟨rfl, rfl⟩
    rw [hf]
    clear hf
    go_wp2_with fail
    go_ret
    exact ⟨rfl, b2⟩
end Go.Proofs.Ytbonbcmdafpceaa
