/- The law NatSums. -/
import Derived.Test.YtjppefjongdhlaaLwB
import Derived.Test.YtjppefjongdhlaaRefF
namespace Go.Proofs.Ytjppefjongdhlaa
open Go.RowKit Num
set_option maxRecDepth 100000

set_option maxHeartbeats 1000000 in
theorem natSums (A A' : Option Addr) (n c n' c' : Nat) (xs ys : List Int) (w : World) (h : Arr w A n c xs) (h' : Arr w A' n' c' ys) :
    Calls Try.prog 10 #[.slice A n c, .slice A' n' c'] w fun r w' => r = .returned (.bool true) ∧ Below w.heap.size w w' := by
  have hcap := h.cap
  have hbig := h.big
  have hcap' := h'.cap
  have hbig' := h'.big
  by_cases g : n ≤ 200 ∧ n' ≤ 200
  · have hf : fewB 200 [(A, n, c), (A', n', c')] = true := by simp [fewB, g.1, g.2]
    obtain ⟨g1, g2⟩ := g
    go_enter Try.func10, Try.ntmps10
    go_wp2_with fail
    refine (awake01 w).mono ?_
    rintro r w1 ⟨rfl, b1⟩
    go_wp2_with fail
    have b2 := below_alloc b1 (.cells #[.slice A n c, .slice A' n' c'] 31)
    refine (few 200 w1.heap.size [(A, n, c), (A', n', c')] 2 rfl _ (by decide) (by decide) (box_two w1 _ _ _ _ rfl (fun _ _ => ⟨rfl, rfl⟩))).mono ?_
    rintro r w' ⟨rfl, rfl⟩
    rw [hf]
    clear hf
    have h2 := h.below b2
    go_wp2_with (at_builtin; refine wp_append rfl _ _ rfl w.heap.size _ 0 [] rfl (owns_empty ?m0 ?m3) A n c xs rfl (h2.below (below_alloc (below_self _) _)) n ?m1 ?m2 ?m4 ?_)
    case m0 => first | rfl | simp
    case m1 => omega
    case m2 => omega
    case m3 => have := b2.size; omega
    case m4 => have := b2.size; simp at this ⊢; omega
    intro v' w3 hown hg
    obtain ⟨A3, c3, rfl, hO⟩ := own_of_owns hown h.wf
    have b3 : Below w.heap.size w w3 := (below_alloc b2 (.cells #[] 22)).trans (grown_below hg (by have := b2.size; simp at this ⊢; omega) (by
      intro q hq
      have := b1.size
      simp [Value.ownBlock] at hq
      omega))
    have x3 := hO.arr
    have h3' := h'.below b3
    clear hg hown hO h2
    go_wp2_with (at_builtin; refine wp_append rfl _ _ rfl w.heap.size _ 0 [] rfl (owns_empty ?m0 ?m3) A' n' c' ys rfl (h3'.below (below_alloc (below_self _) _)) n' ?m1 ?m2 ?m4 ?_)
    case m0 => first | rfl | simp
    case m1 => omega
    case m2 => omega
    case m3 => have := b3.size; omega
    case m4 => have := b3.size; simp at this ⊢; omega
    intro v' w4 hown hg
    obtain ⟨A4, c4, rfl, hO⟩ := own_of_owns hown h'.wf
    have b34 : Below w3.heap.size w3 w4 := (below_alloc (below_self w3) (.cells #[] 22)).trans (grown_below hg (by simp) (by
      intro q hq
      simp [Value.ownBlock] at hq
      omega))
    have b4 := below_on b3 b34
    have x4 := x3.below b34
    have y4 := hO.arr
    clear hg hown hO h3' x3 b34
    go_wp2_with fail
    refine (sub A A' n c n' c' xs ys w4 (h.below b4) (h'.below b4) (by omega) (by omega)).mono ?_
    rintro r w5 ⟨A5, n5, c5, rfl, h5, b5⟩
    have bw5 := below_on b4 b5
    have x5 := x4.below b5
    have y5 := y4.below b5
    have h5 := h5.arr
    go_wp2_with fail
    refine (rsub A3 A4 n c3 n' c4 xs ys w5 x5 y5 (by omega) (by omega)).mono ?_
    rintro r w6 ⟨A6, n6, c6, rfl, h6, b6⟩
    have bw6 := below_on bw5 b6
    have x6 := x5.below b6
    have y6 := y5.below b6
    have h5 := h5.below b6
    have h6 := h6.arr
    generalize decide (val ys ≤ val xs) = q at *
    generalize wd (if val ys ≤ val xs then val xs - val ys else 0) = dd at *
    clear x4 x5 y4 y5 b5 b6
    have HC := Lib.hid (ncmp A A' n c n' c' xs ys w6 (h.below bw6) (h'.below bw6))
    have HC2 := Lib.hid (fun w' (hb : Below w6.heap.size w6 w') => rcmp A3 A4 n c3 n' c4 xs ys w' (x6.below hb) (y6.below hb) (by omega) (by omega))
    generalize cmpI (val xs) (val ys) = cq at *
    go_wp2_with fail
    refine HC.out.mono ?_
    rintro r w7 ⟨rfl, s7⟩
    have b67 := s7.below w6.heap.size
    go_wp2_with fail
    refine (HC2.out _ b67).mono ?_
    rintro r w8 ⟨rfl, b8⟩
    have b68 := below_on b67 b8
    have bw8 := below_on bw6 b68
    have x8 := x6.below b68
    have y8 := y6.below b68
    have h5 := h5.below b68
    have h6 := h6.below b68
    clear HC HC2 b67 b8 b68 s7 x6 y6
    go_wp2_with fail
    refine (add A A' n c n' c' xs ys w8 (h.below bw8) (h'.below bw8) (by omega) (by omega)).mono ?_
    rintro r w9 ⟨A9, n9, c9, rfl, h9, b9⟩
    have bw9 := below_on bw8 b9
    have x9 := x8.below b9
    have y9 := y8.below b9
    have h5 := h5.below b9
    have h6 := h6.below b9
    have h9 := h9.arr
    go_wp2_with fail
    refine (radd A3 A4 n c3 n' c4 xs ys w9 x9 y9 (by omega) (by omega)).mono ?_
    rintro r w10 ⟨A10, n10, c10, rfl, h10, b10⟩
    have bw10 := below_on bw9 b10
    have x10 := x9.below b10
    have y10 := y9.below b10
    have h5 := h5.below b10
    have h6 := h6.below b10
    have h9 := h9.below b10
    have h10 := h10.arr
    go_wp2_with fail
    refine (same01 A9 A10 n9 c9 n10 c10 _ _ w10 h9 h10).mono ?_
    rintro r w11 ⟨rfl, s11⟩
    rw [decide_self]
    have bw11 := bw10.trans (s11.below _)
    have x11 := x10.below (s11.below _)
    have y11 := y10.below (s11.below _)
    have h5 := h5.below (s11.below _)
    have h6 := h6.below (s11.below _)
    clear h9 h10 s11 x8 x9 x10 y8 y9 y10 b9 b10
    go_wp2_with fail
    refine (same01 A5 A6 n5 c5 n6 c6 _ _ w11 h5 h6).mono ?_
    rintro r w12 ⟨rfl, s12⟩
    rw [decide_self]
    have bw12 := bw11.trans (s12.below _)
    have x12 := x11.below (s12.below _)
    have y12 := y11.below (s12.below _)
    clear h5 h6 s12 x11 y11
    go_wp2_with fail
    refine (ntrim A n c xs w12 (h.below bw12) (by omega)).mono ?_
    rintro r w13 ⟨A13, n13, c13, rfl, h13, b13⟩
    have bw13 := below_on bw12 b13
    have x13 := x12.below b13
    have y13 := y12.below b13
    have h13 := h13.arr
    go_wp2_with fail
    refine (rtrim A3 n c3 xs w13 x13 (by omega)).mono ?_
    rintro r w14 ⟨A14, n14, c14, rfl, h14, b14⟩
    have bw14 := below_on bw13 b14
    have x14 := x13.below b14
    have y14 := y13.below b14
    have h13 := h13.below b14
    have h14 := h14.arr
    go_wp2_with fail
    refine (same01 A13 A14 n13 c13 n14 c14 _ _ w14 h13 h14).mono ?_
    rintro r w15 ⟨rfl, s15⟩
    rw [decide_self]
    have bw15 := bw14.trans (s15.below _)
    have x15 := x14.below (s15.below _)
    have y15 := y14.below (s15.below _)
    clear h13 h14 s15 x12 x13 x14 y12 y13 y14 b13 b14
    go_wp2_with fail
    refine (kept A A3 n c n c3 xs xs w15 (h.below bw15) x15).mono ?_
    rintro r w16 ⟨rfl, s16⟩
    rw [decide_self]
    have bw16 := bw15.trans (s16.below _)
    have y16 := y15.below (s16.below _)
    go_wp2_with fail
    refine (kept A' A4 n' c' n' c4 ys ys w16 (h'.below bw16) y16).mono ?_
    rintro r w17 ⟨rfl, s17⟩
    rw [decide_self]
    have bw17 := bw16.trans (s17.below _)
    go_wp2_with fail
    go_ret
    exact ⟨rfl, bw17⟩
  · have hf : fewB 200 [(A, n, c), (A', n', c')] = false := by simp [fewB]; omega
    go_enter Try.func10, Try.ntmps10
    go_wp2_with fail
    refine (awake01 w).mono ?_
    rintro r w1 ⟨rfl, b1⟩
    go_wp2_with fail
    have b2 := below_alloc b1 (.cells #[.slice A n c, .slice A' n' c'] 31)
    refine (few 200 w1.heap.size [(A, n, c), (A', n', c')] 2 rfl _ (by decide) (by decide) (box_two w1 _ _ _ _ rfl (fun _ _ => ⟨rfl, rfl⟩))).mono ?_
    rintro r w' ⟨rfl, rfl⟩
    rw [hf]
    clear hf
    go_wp2_with fail
    go_ret
    exact ⟨rfl, b2⟩
end Go.Proofs.Ytjppefjongdhlaa
