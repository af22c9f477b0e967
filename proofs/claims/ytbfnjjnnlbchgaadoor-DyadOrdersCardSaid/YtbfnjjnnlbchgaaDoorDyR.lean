/- The document's sides: two on one exponent. -/
import Derived.Deep.RegionHeld3
import Derived.Test.YtbfnjjnnlbchgaaDoorDyS
import Derived.Test.YtbfnjjnnlbchgaaDoorDyE
import Derived.Test.YtbfnjjnnlbchgaaDoorNatG
namespace Go.Proofs.YtbfnjjnnlbchgaaDoor
open Go.RowKit Num
set_option maxRecDepth 100000

/-- Two canonical lists of words on one exponent. -/
def RetE (x y g : Int) (w : World) (r : Ending) (w' : World) : Prop :=
  ∃ A1 n1 c1 A2 n2 c2, r = .returned (.tuple #[.slice A1 n1 c1, .slice A2 n2 c2, .int .i64 g]) ∧ Arr w' A1 n1 c1 (wd x) ∧ Arr w' A2 n2 c2 (wd y) ∧ Below w.heap.size w w'
/-- What is laid of a number of x, y units on their common exponent. -/
theorem sides_zero_left (y e f : Int) : lev 0 e (sideE 0 y e f) = 0 ∧ lev y f (sideE 0 y e f) = y ∧ sideE 0 y e f = f := by
  have : sideE 0 y e f = f := by unfold sideE; rw [if_pos rfl]
  rw [this]; exact ⟨lev_zero _ _, lev_self _ _, rfl⟩
theorem sides_zero_right {x : Int} (hx : x ≠ 0) (e f : Int) : lev x e (sideE x 0 e f) = x ∧ lev 0 f (sideE x 0 e f) = 0 ∧ sideE x 0 e f = e := by
  have : sideE x 0 e f = e := by unfold sideE; rw [if_neg hx, if_pos rfl]
  rw [this]; exact ⟨lev_self _ _, lev_zero _ _, rfl⟩
set_option maxHeartbeats 2000000 in
theorem rsides (p q : Bool) (A A' : Option Addr) (n c n' c' : Nat) (x y e f : Int) (w : World) (h : Arr w A n c (wd x)) (h' : Arr w A' n' c' (wd y)) (hx : 0 ≤ x) (hy : 0 ≤ y) (hn : n ≤ 1000000) (hn' : n' ≤ 1000000)
    (_he0 : -10000000 ≤ e) (_he1 : e ≤ 10000000) (_hf0 : -10000000 ≤ f) (_hf1 : f ≤ 10000000) (hd : x = 0 ∨ y = 0 ∨ (e - f ≤ 1048576 ∧ f - e ≤ 1048576)) :
    Calls Tryd.prog 108 #[.agg #[.bool p, .slice A n c, .int .i64 e], .agg #[.bool q, .slice A' n' c', .int .i64 f]] w (RetE (lev x e (sideE x y e f)) (lev y f (sideE x y e f)) (sideE x y e f) w) := by
  have b1 : Below w.heap.size w ((w.alloc (.cells #[.bool p, .slice A n c, .int .i64 e] 24)).alloc (.cells #[.bool q, .slice A' n' c', .int .i64 f] 24)) := below_alloc (below_alloc (below_self w) _) _
  have bx := (box_new w #[.bool p, .slice A n c, .int .i64 e] 24).later (below_alloc (below_self _) (.cells #[.bool q, .slice A' n' c', .int .i64 f] 24))
  have bz := box_new (w.alloc (.cells #[.bool p, .slice A n c, .int .i64 e] 24)) #[.bool q, .slice A' n' c', .int .i64 f] 24
  rw [show (w.alloc (.cells #[.bool p, .slice A n c, .int .i64 e] 24)).heap.size = w.heap.size + 1 by simp] at bz
  obtain ⟨k0, k1, k2, f0, f1, f2⟩ := bx.cell3
  obtain ⟨j0, j1, j2, g0, g1, g2⟩ := bz.cell3
  have H := h.below b1
  have H' := h'.below b1
  by_cases hx0 : x = 0
  · subst hx0
    have hn0 : n = 0 := by have := h.len; rw [wd_zero (Int.le_refl _)] at this; exact this.symm
    subst hn0
    obtain ⟨e1, e2, e3⟩ := sides_zero_left y e f
    rw [e1, e2, e3]
    clear e1 e2 e3
    go_enter Tryd.func108, Tryd.ntmps108
    go_wp2_with fail
    go_quiet (fail)
    go_wp2_with fail
    refine bodyPost_ret (v := .tuple #[.slice none 0 0, .slice A' n' c', .int .i64 f]) (by simp [results, Tryd.results108, go_sem]) rfl ?_
    exact ⟨none, 0, 0, A', n', c', rfl, by rw [wd_zero (Int.le_refl _)]; exact Arr.nothing _, h'.below ((by repeat (first | with_reducible assumption | with_reducible exact below_self _ | with_reducible refine below_drewN ?_ _ | with_reducible apply Below.drew | with_reducible refine below_alloc ?_ _))), (by repeat (first | with_reducible assumption | with_reducible exact below_self _ | with_reducible refine below_drewN ?_ _ | with_reducible apply Below.drew | with_reducible refine below_alloc ?_ _))⟩
  · have hn0 : n ≠ 0 := by
      have := h.len
      have hh := wd_ne_nil (n := x) (by omega)
      intro hz
      rw [hz] at this
      exact hh (List.length_eq_zero_iff.1 this)
    have d1 : ((n : Int) == 0) = false := beq_eq_false_iff_ne.2 (by omega)
    by_cases hy0 : y = 0
    · subst hy0
      have hm0 : n' = 0 := by have := h'.len; rw [wd_zero (Int.le_refl _)] at this; exact this.symm
      subst hm0
      obtain ⟨e1, e2, e3⟩ := sides_zero_right hx0 e f
      rw [e1, e2, e3]
      clear e1 e2 e3
      go_enter Tryd.func108, Tryd.ntmps108
      go_wp2_with fail
      go_quiet (fail)
      go_wp2_with fail
      refine bodyPost_ret (v := .tuple #[.slice A n c, .slice none 0 0, .int .i64 e]) (by simp [results, Tryd.results108, go_sem]) rfl ?_
      exact ⟨A, n, c, none, 0, 0, rfl, h.below ((by repeat (first | with_reducible assumption | with_reducible exact below_self _ | with_reducible refine below_drewN ?_ _ | with_reducible apply Below.drew | with_reducible refine below_alloc ?_ _))), by rw [wd_zero (Int.le_refl _)]; exact Arr.nothing _, (by repeat (first | with_reducible assumption | with_reducible exact below_self _ | with_reducible refine below_drewN ?_ _ | with_reducible apply Below.drew | with_reducible refine below_alloc ?_ _))⟩
    · have hm0 : n' ≠ 0 := by
        have := h'.len
        have hh := wd_ne_nil (n := y) (by omega)
        intro hz
        rw [hz] at this
        exact hh (List.length_eq_zero_iff.1 this)
      have d2 : ((n' : Int) == 0) = false := beq_eq_false_iff_ne.2 (by omega)
      have e3 : sideE x y e f = min e f := by unfold sideE; rw [if_neg hx0, if_neg hy0]
      rw [e3]
      have hd' := (hd.resolve_left hx0).resolve_left hy0
      have vx := val_wd x hx
      have vy := val_wd y hy
      have SX : ∀ (w1 : World) (hb : Below ((w.alloc (.cells #[.bool p, .slice A n c, .int .i64 e] 24)).alloc (.cells #[.bool q, .slice A' n' c', .int .i64 f] 24)).heap.size ((w.alloc (.cells #[.bool p, .slice A n c, .int .i64 e] 24)).alloc (.cells #[.bool q, .slice A' n' c', .int .i64 f] 24)) w1), Calls Tryd.prog 106 #[.slice A n c, .int .i64 (e - min e f)] w1 fun r w5 => ∃ A5 n5 c5, r = .returned (.slice A5 n5 c5) ∧ Arr w5 A5 n5 c5 (wd (lev x e (min e f))) ∧ Below ((w.alloc (.cells #[.bool p, .slice A n c, .int .i64 e] 24)).alloc (.cells #[.bool q, .slice A' n' c', .int .i64 f] 24)).heap.size ((w.alloc (.cells #[.bool p, .slice A n c, .int .i64 e] 24)).alloc (.cells #[.bool q, .slice A' n' c', .int .i64 f] 24)) w5 ∧ Below w1.heap.size w1 w5 := by
        intro w1 hb
        have S := rshl A n c _ (e - min e f) w1 (H.below hb) (by omega) (by omega) (by omega)
        rw [shlI_eq (by omega) (by omega), vx] at S
        refine S.mono ?_
        rintro r w5 ⟨A5, n5, c5, rfl, ha, hb5⟩
        exact ⟨A5, n5, c5, rfl, ha, below_on hb hb5, hb5⟩
      have SY : ∀ (w1 : World) (hb : Below ((w.alloc (.cells #[.bool p, .slice A n c, .int .i64 e] 24)).alloc (.cells #[.bool q, .slice A' n' c', .int .i64 f] 24)).heap.size ((w.alloc (.cells #[.bool p, .slice A n c, .int .i64 e] 24)).alloc (.cells #[.bool q, .slice A' n' c', .int .i64 f] 24)) w1), Calls Tryd.prog 106 #[.slice A' n' c', .int .i64 (f - min e f)] w1 fun r w5 => ∃ A5 n5 c5, r = .returned (.slice A5 n5 c5) ∧ Arr w5 A5 n5 c5 (wd (lev y f (min e f))) ∧ Below ((w.alloc (.cells #[.bool p, .slice A n c, .int .i64 e] 24)).alloc (.cells #[.bool q, .slice A' n' c', .int .i64 f] 24)).heap.size ((w.alloc (.cells #[.bool p, .slice A n c, .int .i64 e] 24)).alloc (.cells #[.bool q, .slice A' n' c', .int .i64 f] 24)) w5 ∧ Below w1.heap.size w1 w5 := by
        intro w1 hb
        have S := rshl A' n' c' _ (f - min e f) w1 (H'.below hb) (by omega) (by omega) (by omega)
        rw [shlI_eq (by omega) (by omega), vy] at S
        refine S.mono ?_
        rintro r w5 ⟨A5, n5, c5, rfl, ha, hb5⟩
        exact ⟨A5, n5, c5, rfl, ha, below_on hb hb5, hb5⟩
      have SX := Lib.hid SX
      have SY := Lib.hid SY
      have W1 : IntKind.i64.wrap (e - min e f) = e - min e f := by rw [IntKind.wrap_i64]; omega
      have W2 : IntKind.i64.wrap (f - min e f) = f - min e f := by rw [IntKind.wrap_i64]; omega
      have KC : ∀ w', Below ((w.alloc (.cells #[.bool p, .slice A n c, .int .i64 e] 24)).alloc (.cells #[.bool q, .slice A' n' c', .int .i64 f] 24)).heap.size ((w.alloc (.cells #[.bool p, .slice A n c, .int .i64 e] 24)).alloc (.cells #[.bool q, .slice A' n' c', .int .i64 f] 24)) w' → ((w'.cell? ⟨w.heap.size, 0, none⟩ = some (.bool p) ∧ w'.cell? ⟨w.heap.size, 1, none⟩ = some (.slice A n c) ∧ w'.cell? ⟨w.heap.size, 2, none⟩ = some (.int .i64 e)) ∧ (w'.cell? ⟨w.heap.size + 1, 0, none⟩ = some (.bool q) ∧ w'.cell? ⟨w.heap.size + 1, 1, none⟩ = some (.slice A' n' c') ∧ w'.cell? ⟨w.heap.size + 1, 2, none⟩ = some (.int .i64 f))) := fun w' hb => ⟨⟨(bx.later hb).cell 0, (bx.later hb).cell 1, (bx.later hb).cell 2⟩, ⟨(bz.later hb).cell 0, (bz.later hb).cell 1, (bz.later hb).cell 2⟩⟩
      have KC := Lib.hid KC
      clear bx bz h h' H H' vx vy hd hd' e3
      generalize lev x e (min e f) = lx at *
      generalize lev y f (min e f) = ly at *
      go_enter Tryd.func108, Tryd.ntmps108
      go_wp2_with fail
      generalize ((w.alloc (.cells #[.bool p, .slice A n c, .int .i64 e] 24)).alloc (.cells #[.bool q, .slice A' n' c', .int .i64 f] 24)) = W at *
      generalize min e f = g at *
      go_region_held3 (fun w' => ((w'.cell? ⟨w.heap.size, 0, none⟩ = some (.bool p) ∧ w'.cell? ⟨w.heap.size, 1, none⟩ = some (.slice A n c) ∧ w'.cell? ⟨w.heap.size, 2, none⟩ = some (.int .i64 e)) ∧ (w'.cell? ⟨w.heap.size + 1, 0, none⟩ = some (.bool q) ∧ w'.cell? ⟨w.heap.size + 1, 1, none⟩ = some (.slice A' n' c') ∧ w'.cell? ⟨w.heap.size + 1, 2, none⟩ = some (.int .i64 f)))) (first | exact KC.out _ ((by repeat (first | with_reducible assumption | with_reducible exact below_self _ | with_reducible refine below_drewN ?_ _ | with_reducible apply Below.drew | with_reducible refine below_alloc ?_ _)))) (first | (go_at_call_of 106 (Value.slice A n c); refine (SX.out _ ?_).mono ?_; (repeat (first | with_reducible assumption | with_reducible exact below_self _ | with_reducible refine below_drewN ?_ _ | with_reducible apply Below.drew | with_reducible refine below_alloc ?_ _)); rintro r w5 ⟨A5, n5, c5, rfl, hA5, hb5, hc5⟩) | (go_at_call_of 106 (Value.slice A' n' c'); refine (SY.out _ ?_).mono ?_; (repeat (first | with_reducible assumption | with_reducible exact below_self _ | with_reducible refine below_drewN ?_ _ | with_reducible apply Below.drew | with_reducible refine below_alloc ?_ _)); rintro r w6 ⟨A6, n6, c6, rfl, hA6, hb6, hc6⟩))
      go_wp2_with fail
      refine bodyPost_ret (v := .tuple #[.slice A5 n5 c5, .slice A6 n6 c6, .int .i64 g]) (by simp [results, Tryd.results108, go_sem]) rfl ?_
      exact ⟨A5, n5, c5, A6, n6, c6, rfl, (hA5.below hc6).below ((by repeat (first | with_reducible assumption | with_reducible exact below_self _ | with_reducible refine below_drewN ?_ _ | with_reducible apply Below.drew | with_reducible refine below_alloc ?_ _))), hA6.below ((by repeat (first | with_reducible assumption | with_reducible exact below_self _ | with_reducible refine below_drewN ?_ _ | with_reducible apply Below.drew | with_reducible refine below_alloc ?_ _))), below_on b1 ((by repeat (first | with_reducible assumption | with_reducible exact below_self _ | with_reducible refine below_drewN ?_ _ | with_reducible apply Below.drew | with_reducible refine below_alloc ?_ _)))⟩
end Go.Proofs.YtbfnjjnnlbchgaaDoor
