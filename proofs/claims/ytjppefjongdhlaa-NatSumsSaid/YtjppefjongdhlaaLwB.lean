/- The law NatProducts. -/
import Derived.Test.YtjppefjongdhlaaLwA
import Derived.Test.YtjppefjongdhlaaRefC
namespace Go.Proofs.Ytjppefjongdhlaa
open Go.RowKit Num
set_option maxRecDepth 100000

theorem box_two (w : World) (a b : Value) (t : TypeId) : ∀ (l : List (Option Addr × Nat × Nat)), l.length = 2 → (∀ (h0 : 0 < l.length) (h1 : 1 < l.length), slv l[0] = a ∧ slv l[1] = b) → ∀ j (h : j < l.length), (w.alloc (.cells #[a, b] t)).cell? ⟨w.heap.size, j, none⟩ = some (slv l[j]) := by
  intro l hl hh j hj
  obtain ⟨e0, e1⟩ := hh (by omega) (by omega)
  have := (box_new w #[a, b] t).cell j
  rw [this]
  have : j = 0 ∨ j = 1 := by omega
  rcases this with rfl | rfl
  · simp [e0]
  · simp [e1]
theorem natProducts (A A' : Option Addr) (n c n' c' : Nat) (xs ys : List Int) (w : World) (h : Arr w A n c xs) (h' : Arr w A' n' c' ys) :
    Calls Try.prog 6 #[.slice A n c, .slice A' n' c'] w fun r w' => r = .returned (.bool true) ∧ Below w.heap.size w w' := by
  have hcap := h.cap
  have hbig := h.big
  have hcap' := h'.cap
  have hbig' := h'.big
  by_cases g : n ≤ 120 ∧ n' ≤ 120
  · have hf : fewB 120 [(A, n, c), (A', n', c')] = true := by simp [fewB, g.1, g.2]
    obtain ⟨g1, g2⟩ := g
    go_enter Try.func6, Try.ntmps6
    go_wp2_with fail
    refine (awake01 w).mono ?_
    rintro r w1 ⟨rfl, b1⟩
    go_wp2_with fail
    have b2 := below_alloc b1 (.cells #[.slice A n c, .slice A' n' c'] 31)
    refine (few 120 w1.heap.size [(A, n, c), (A', n', c')] 2 rfl _ (by decide) (by decide) (box_two w1 _ _ _ _ rfl (fun _ _ => ⟨rfl, rfl⟩))).mono ?_
    rintro r w' ⟨rfl, rfl⟩
    rw [hf]
    clear hf
    have h2 := h.below b2
    go_wp2_with (at_builtin; refine wp_append rfl _ _ rfl w.heap.size _ 0 [] rfl (owns_empty ?m0 ?m3) A n c xs rfl (h2.below (below_alloc (below_self _) _)) n ?m1 ?m2 ?m4 ?_)
    case m0 => first | rfl | simp
    case m1 => omega
    case m2 => omega
    case m3 => have := b2.size; omega
    case m4 => have := b2.size; simp at this ⊢; omega
    intro v' w3 hown hg
    obtain ⟨A3, c3, rfl, hO⟩ := own_of_owns hown h.wf
    have b3 : Below w.heap.size w w3 := (below_alloc b2 (.cells #[] 22)).trans (grown_below hg (by have := b2.size; simp at this ⊢; omega) (by
      intro q hq
      have := b1.size
      simp [Value.ownBlock] at hq
      omega))
    have x3 := hO.arr
    have h3' := h'.below b3
    clear hg hown hO h2
    go_wp2_with (at_builtin; refine wp_append rfl _ _ rfl w.heap.size _ 0 [] rfl (owns_empty ?m0 ?m3) A' n' c' ys rfl (h3'.below (below_alloc (below_self _) _)) n' ?m1 ?m2 ?m4 ?_)
    case m0 => first | rfl | simp
    case m1 => omega
    case m2 => omega
    case m3 => have := b3.size; omega
    case m4 => have := b3.size; simp at this ⊢; omega
    intro v' w4 hown hg
    obtain ⟨A4, c4, rfl, hO⟩ := own_of_owns hown h'.wf
    have b34 : Below w3.heap.size w3 w4 := (below_alloc (below_self w3) (.cells #[] 22)).trans (grown_below hg (by simp) (by
      intro q hq
      simp [Value.ownBlock] at hq
      omega))
    have b4 := below_on b3 b34
    have x4 := x3.below b34
    have y4 := hO.arr
    clear hg hown hO h3' x3 b34
    go_wp2_with fail
    refine (mul A A' n c n' c' xs ys w4 (h.below b4) (h'.below b4) (by omega) (by omega)).mono ?_
    rintro r w5 ⟨A5, n5, c5, rfl, h5, b5⟩
    have bw5 := below_on b4 b5
    have x5 := x4.below b5
    have y5 := y4.below b5
    have h5 := h5.arr
    go_wp2_with fail
    refine (rmul A3 A4 n c3 n' c4 xs ys w5 x5 y5 (by omega) (by omega)).mono ?_
    rintro r w6 ⟨A6, n6, c6, rfl, h6, b6⟩
    have bw6 := below_on bw5 b6
    have x6 := x5.below b6
    have y6 := y5.below b6
    have h56 := h5.below b6
    have h6 := h6.arr
    go_wp2_with fail
    refine (same01 A5 A6 n5 c5 n6 c6 _ _ w6 h56 h6).mono ?_
    rintro r w7 ⟨rfl, s7⟩
    rw [decide_self]
    have bw7 := bw6.trans (s7.below _)
    have x7 := x6.below (s7.below _)
    have y7 := y6.below (s7.below _)
    clear h56 h5 h6 s7 x4 x5 x6 y4 y5 y6 b5 b6
    go_wp2_with fail
    refine (kept A A3 n c n c3 xs xs w7 (h.below bw7) x7).mono ?_
    rintro r w8 ⟨rfl, s8⟩
    rw [decide_self]
    have bw8 := bw7.trans (s8.below _)
    have y8 := y7.below (s8.below _)
    go_wp2_with fail
    refine (kept A' A4 n' c' n' c4 ys ys w8 (h'.below bw8) y8).mono ?_
    rintro r w9 ⟨rfl, s9⟩
    rw [decide_self]
    have bw9 := bw8.trans (s9.below _)
    go_wp2_with fail
    go_ret
    exact ⟨rfl, bw9⟩
  · have hf : fewB 120 [(A, n, c), (A', n', c')] = false := by simp [fewB]; omega
    go_enter Try.func6, Try.ntmps6
    go_wp2_with fail
    refine (awake01 w).mono ?_
    rintro r w1 ⟨rfl, b1⟩
    go_wp2_with fail
    have b2 := below_alloc b1 (.cells #[.slice A n c, .slice A' n' c'] 31)
    refine (few 120 w1.heap.size [(A, n, c), (A', n', c')] 2 rfl _ (by decide) (by decide) (box_two w1 _ _ _ _ rfl (fun _ _ => ⟨rfl, rfl⟩))).mono ?_
    rintro r w' ⟨rfl, rfl⟩
    rw [hf]
    clear hf
    go_wp2_with fail
    go_ret
    exact ⟨rfl, b2⟩
end Go.Proofs.Ytjppefjongdhlaa
