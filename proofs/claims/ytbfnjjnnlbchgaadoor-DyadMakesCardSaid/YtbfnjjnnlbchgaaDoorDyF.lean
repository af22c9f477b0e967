/- dyad.level and dyad.Cmp. -/
import Derived.Deep.RegionHeld3
import Derived.Test.YtbfnjjnnlbchgaaDoorDyE
import Derived.Test.YtbfnjjnnlbchgaaDoorDyM
namespace Go.Proofs.YtbfnjjnnlbchgaaDoor
open Go.RowKit Num
set_option maxRecDepth 100000

def lvX (n n' : Nat) (v e f : Int) : Int := if n = 0 then 0 else if n' = 0 then v else v * 2 ^ (e - f).toNat
def lvY (n n' : Nat) (v e f : Int) : Int := if n = 0 then v else if n' = 0 then 0 else v * 2 ^ (f - e).toNat
/-- Two lists of words on one exponent. -/
def RetL (x y : Int) (w : World) (r : Ending) (w' : World) : Prop :=
  ∃ A1 n1 c1 X1 A2 n2 c2 X2 g, r = .returned (.tuple #[.slice A1 n1 c1, .slice A2 n2 c2, .int .i64 g]) ∧ Arr w' A1 n1 c1 X1 ∧ Arr w' A2 n2 c2 X2 ∧ val X1 = x ∧ val X2 = y ∧ Below w.heap.size w w'
def Cells6 (w w5 : World) (p q : Bool) (A A' : Option Addr) (n c n' c' : Nat) (e f : Int) : Prop :=
  (w5.cell? ⟨w.heap.size, 0, none⟩ = some (.bool p) ∧ w5.cell? ⟨w.heap.size, 1, none⟩ = some (.slice A n c) ∧ w5.cell? ⟨w.heap.size, 2, none⟩ = some (.int .i64 e) ∧ w5.frozen? ⟨w.heap.size, 0, none⟩ = false ∧ w5.frozen? ⟨w.heap.size, 1, none⟩ = false ∧ w5.frozen? ⟨w.heap.size, 2, none⟩ = false) ∧
  (w5.cell? ⟨w.heap.size + 1, 0, none⟩ = some (.bool q) ∧ w5.cell? ⟨w.heap.size + 1, 1, none⟩ = some (.slice A' n' c') ∧ w5.cell? ⟨w.heap.size + 1, 2, none⟩ = some (.int .i64 f) ∧ w5.frozen? ⟨w.heap.size + 1, 0, none⟩ = false ∧ w5.frozen? ⟨w.heap.size + 1, 1, none⟩ = false ∧ w5.frozen? ⟨w.heap.size + 1, 2, none⟩ = false)
set_option maxHeartbeats 1000000 in
theorem level (p q : Bool) (A A' : Option Addr) (n c n' c' : Nat) (xs ys : List Int) (e f : Int) (w : World) (h : Arr w A n c xs) (h' : Arr w A' n' c' ys) (hn : n ≤ 1000000) (hn' : n' ≤ 1000000)
    (he0 : -262144 ≤ e) (he1 : e ≤ 262144) (hf0 : -262144 ≤ f) (hf1 : f ≤ 262144) :
    Calls Tryd.prog 88 #[.agg #[.bool p, .slice A n c, .int .i64 e], .agg #[.bool q, .slice A' n' c', .int .i64 f]] w (RetL (lvX n n' (val xs) e f) (lvY n n' (val ys) e f) w) := by
  have nx := h.val_nonneg
  have ny := h'.val_nonneg
  have bx := box_new w #[.bool p, .slice A n c, .int .i64 e] 24
  have b0 := below_alloc (below_self w) (.cells #[.bool p, .slice A n c, .int .i64 e] 24)
  have by' := box_new (w.alloc (.cells #[.bool p, .slice A n c, .int .i64 e] 24)) #[.bool q, .slice A' n' c', .int .i64 f] 24
  have b1 := below_alloc b0 (.cells #[.bool q, .slice A' n' c', .int .i64 f] 24)
  have bx' := bx.later (below_alloc (below_self _) (.cells #[.bool q, .slice A' n' c', .int .i64 f] 24))
  obtain ⟨k0, k1, k2, f0, f1, f2⟩ := bx'.cell3
  have H := h.below b1
  have H' := h'.below b1
  have hsz : (w.alloc (.cells #[.bool p, .slice A n c, .int .i64 e] 24)).heap.size = w.heap.size + 1 := by simp
  have bz := by'
  rw [hsz] at bz
  clear hsz
  obtain ⟨j0, j1, j2, g0, g1, g2⟩ := bz.cell3
  have SX : ∀ (w1 : World) (hb : Below ((w.alloc (.cells #[.bool p, .slice A n c, .int .i64 e] 24)).alloc (.cells #[.bool q, .slice A' n' c', .int .i64 f] 24)).heap.size ((w.alloc (.cells #[.bool p, .slice A n c, .int .i64 e] 24)).alloc (.cells #[.bool q, .slice A' n' c', .int .i64 f] 24)) w1) (k : Int) (h0 : -9223372036854775808 ≤ k) (h1 : k ≤ 9223372036854775807), Calls Tryd.prog 104 #[.slice A n c, .int .i64 k] w1 fun r w5 => ∃ A5 n5 c5, r = .returned (.slice A5 n5 c5) ∧ Arr w5 A5 n5 c5 (wd (shlI (val xs) k)) ∧ Below ((w.alloc (.cells #[.bool p, .slice A n c, .int .i64 e] 24)).alloc (.cells #[.bool q, .slice A' n' c', .int .i64 f] 24)).heap.size ((w.alloc (.cells #[.bool p, .slice A n c, .int .i64 e] 24)).alloc (.cells #[.bool q, .slice A' n' c', .int .i64 f] 24)) w5 := by
    intro w1 hb k h0 h1
    refine (shl A n c xs k w1 (H.below hb) (by omega) h0 h1).mono ?_
    rintro r w5 ⟨A5, n5, c5, rfl, ha, hb5⟩
    exact ⟨A5, n5, c5, rfl, ha, below_on hb hb5⟩
  have SX := Lib.hid SX
  have SY : ∀ (w1 : World) (hb : Below ((w.alloc (.cells #[.bool p, .slice A n c, .int .i64 e] 24)).alloc (.cells #[.bool q, .slice A' n' c', .int .i64 f] 24)).heap.size ((w.alloc (.cells #[.bool p, .slice A n c, .int .i64 e] 24)).alloc (.cells #[.bool q, .slice A' n' c', .int .i64 f] 24)) w1) (k : Int) (h0 : -9223372036854775808 ≤ k) (h1 : k ≤ 9223372036854775807), Calls Tryd.prog 104 #[.slice A' n' c', .int .i64 k] w1 fun r w5 => ∃ A5 n5 c5, r = .returned (.slice A5 n5 c5) ∧ Arr w5 A5 n5 c5 (wd (shlI (val ys) k)) ∧ Below ((w.alloc (.cells #[.bool p, .slice A n c, .int .i64 e] 24)).alloc (.cells #[.bool q, .slice A' n' c', .int .i64 f] 24)).heap.size ((w.alloc (.cells #[.bool p, .slice A n c, .int .i64 e] 24)).alloc (.cells #[.bool q, .slice A' n' c', .int .i64 f] 24)) w5 := by
    intro w1 hb k h0 h1
    refine (shl A' n' c' ys k w1 (H'.below hb) (by omega) h0 h1).mono ?_
    rintro r w5 ⟨A5, n5, c5, rfl, ha, hb5⟩
    exact ⟨A5, n5, c5, rfl, ha, below_on hb hb5⟩
  have SY := Lib.hid SY
  have HK := Lib.hid (fun w1 (hb : Below ((w.alloc (.cells #[.bool p, .slice A n c, .int .i64 e] 24)).alloc (.cells #[.bool q, .slice A' n' c', .int .i64 f] 24)).heap.size ((w.alloc (.cells #[.bool p, .slice A n c, .int .i64 e] 24)).alloc (.cells #[.bool q, .slice A' n' c', .int .i64 f] 24)) w1) => And.intro (bx'.later hb).cell3 (bz.later hb).cell3)
  clear bx bx' by'
  by_cases hn0 : n = 0
  · subst hn0
    have e1 : lvX 0 n' (val xs) e f = 0 := rfl
    have e2 : lvY 0 n' (val ys) e f = val ys := rfl
    rw [e1, e2]
    clear e1 e2
    go_enter Tryd.func88, Tryd.ntmps88
    go_wp2_with fail
    go_quiet (fail)
    go_wp2_with fail
    refine bodyPost_ret (v := .tuple #[.slice none 0 0, .slice A' n' c', .int .i64 f]) (by simp [results, Tryd.results88, go_sem]) rfl ?_
    exact ⟨none, 0, 0, [], A', n', c', ys, f, rfl, Arr.nothing _, h'.below ((by repeat (first | with_reducible assumption | with_reducible exact below_self _ | with_reducible refine below_drewN ?_ _ | with_reducible apply Below.drew | with_reducible refine below_alloc ?_ _))), rfl, rfl, (by repeat (first | with_reducible assumption | with_reducible exact below_self _ | with_reducible refine below_drewN ?_ _ | with_reducible apply Below.drew | with_reducible refine below_alloc ?_ _))⟩
  · by_cases hm0 : n' = 0
    · subst hm0
      have e1 : lvX n 0 (val xs) e f = val xs := by unfold lvX; rw [if_neg hn0, if_pos rfl]
      have e2 : lvY n 0 (val ys) e f = 0 := by unfold lvY; rw [if_neg hn0, if_pos rfl]
      rw [e1, e2]
      have d1 : ((n : Int) == 0) = false := beq_eq_false_iff_ne.2 (by omega)
      clear e1 e2
      go_enter Tryd.func88, Tryd.ntmps88
      go_wp2_with fail
      go_quiet (fail)
      go_wp2_with fail
      refine bodyPost_ret (v := .tuple #[.slice A n c, .slice none 0 0, .int .i64 e]) (by simp [results, Tryd.results88, go_sem]) rfl ?_
      exact ⟨A, n, c, xs, none, 0, 0, [], e, rfl, h.below ((by repeat (first | with_reducible assumption | with_reducible exact below_self _ | with_reducible refine below_drewN ?_ _ | with_reducible apply Below.drew | with_reducible refine below_alloc ?_ _))), Arr.nothing _, rfl, rfl, (by repeat (first | with_reducible assumption | with_reducible exact below_self _ | with_reducible refine below_drewN ?_ _ | with_reducible apply Below.drew | with_reducible refine below_alloc ?_ _))⟩
    · have d1 : ((n : Int) == 0) = false := beq_eq_false_iff_ne.2 (by omega)
      have d2 : ((n' : Int) == 0) = false := beq_eq_false_iff_ne.2 (by omega)
      have e1 : lvX n n' (val xs) e f = val xs * 2 ^ (e - f).toNat := by unfold lvX; rw [if_neg hn0, if_neg hm0]
      have e2 : lvY n n' (val ys) e f = val ys * 2 ^ (f - e).toNat := by unfold lvY; rw [if_neg hn0, if_neg hm0]
      rw [e1, e2]
      clear e1 e2
      have W1 : IntKind.i64.wrap (e - f) = e - f := by rw [IntKind.wrap_i64]; omega
      have W2 : IntKind.i64.wrap (f - e) = f - e := by rw [IntKind.wrap_i64]; omega
      by_cases hef : f ≤ e
      · have SX := Lib.hid (fun w' hb => SX.out w' hb (e - f) (by omega) (by omega))
        rw [shlI_eq (by omega) (by omega)] at SX
        have HX : Hid (val (wd (val xs * 2 ^ (e - f).toNat)) = val xs * 2 ^ (e - f).toNat) := val_wd _ (Int.mul_nonneg nx (Int.le_of_lt (pw_pos _)))
        have HY : Hid (val ys = val ys * 2 ^ (f - e).toNat) := by show _ = _; rw [show (f - e).toNat = 0 by omega]; simp
        generalize val xs * 2 ^ (e - f).toNat = lx at *
        generalize val ys * 2 ^ (f - e).toNat = ly at *
        clear h h' nx ny SY bz W2
        (go_enter Tryd.func88, Tryd.ntmps88; go_wp2_with fail; generalize ((w.alloc (.cells #[.bool p, .slice A n c, .int .i64 e] 24)).alloc (.cells #[.bool q, .slice A' n' c', .int .i64 f] 24)) = W at *; go_region_held3 (fun w' => ((w'.cell? ⟨w.heap.size, 0, none⟩ = some (.bool p) ∧ w'.cell? ⟨w.heap.size, 1, none⟩ = some (.slice A n c) ∧ w'.cell? ⟨w.heap.size, 2, none⟩ = some (.int .i64 e) ∧ w'.frozen? ⟨w.heap.size, 0, none⟩ = false ∧ w'.frozen? ⟨w.heap.size, 1, none⟩ = false ∧ w'.frozen? ⟨w.heap.size, 2, none⟩ = false) ∧ (w'.cell? ⟨w.heap.size + 1, 0, none⟩ = some (.bool q) ∧ w'.cell? ⟨w.heap.size + 1, 1, none⟩ = some (.slice A' n' c') ∧ w'.cell? ⟨w.heap.size + 1, 2, none⟩ = some (.int .i64 f) ∧ w'.frozen? ⟨w.heap.size + 1, 0, none⟩ = false ∧ w'.frozen? ⟨w.heap.size + 1, 1, none⟩ = false ∧ w'.frozen? ⟨w.heap.size + 1, 2, none⟩ = false))) (first | exact HK.out _ ((by repeat (first | with_reducible assumption | with_reducible exact below_self _ | with_reducible refine below_drewN ?_ _ | with_reducible apply Below.drew | with_reducible refine below_alloc ?_ _)))) (first | (go_at_call 104; refine ((SX).out _ ?_).mono ?_; (repeat (first | with_reducible assumption | with_reducible exact below_self _ | with_reducible refine below_drewN ?_ _ | with_reducible apply Below.drew | with_reducible refine below_alloc ?_ _)); rintro r w5 ⟨A5, n5, c5, rfl, hA5, hb5⟩)); go_wp2_with fail; refine bodyPost_ret (v := .tuple #[(.slice A5 n5 c5), (.slice A' n' c'), .int .i64 f]) (by simp [results, Tryd.results88, go_sem]) rfl ?_)
        exact ⟨A5, n5, c5, _, A', n', c', ys, f, rfl, hA5.below ((by repeat (first | with_reducible assumption | with_reducible exact below_self _ | with_reducible refine below_drewN ?_ _ | with_reducible apply Below.drew | with_reducible refine below_alloc ?_ _))), H'.below ((by repeat (first | with_reducible assumption | with_reducible exact below_self _ | with_reducible refine below_drewN ?_ _ | with_reducible apply Below.drew | with_reducible refine below_alloc ?_ _))), HX.out, HY.out, below_on b1 ((by repeat (first | with_reducible assumption | with_reducible exact below_self _ | with_reducible refine below_drewN ?_ _ | with_reducible apply Below.drew | with_reducible refine below_alloc ?_ _)))⟩
      · have SY := Lib.hid (fun w' hb => SY.out w' hb (f - e) (by omega) (by omega))
        rw [shlI_eq (by omega) (by omega)] at SY
        have HY : Hid (val (wd (val ys * 2 ^ (f - e).toNat)) = val ys * 2 ^ (f - e).toNat) := val_wd _ (Int.mul_nonneg ny (Int.le_of_lt (pw_pos _)))
        have HX : Hid (val xs = val xs * 2 ^ (e - f).toNat) := by show _ = _; rw [show (e - f).toNat = 0 by omega]; simp
        have d3 : decide (f ≤ e) = false := by simp; omega
        have d4 : decide (e ≥ f) = false := by simp; omega
        generalize val xs * 2 ^ (e - f).toNat = lx at *
        generalize val ys * 2 ^ (f - e).toNat = ly at *
        clear h h' nx ny SX bz W1
        (go_enter Tryd.func88, Tryd.ntmps88; go_wp2_with fail; generalize ((w.alloc (.cells #[.bool p, .slice A n c, .int .i64 e] 24)).alloc (.cells #[.bool q, .slice A' n' c', .int .i64 f] 24)) = W at *; go_region_held3 (fun w' => ((w'.cell? ⟨w.heap.size, 0, none⟩ = some (.bool p) ∧ w'.cell? ⟨w.heap.size, 1, none⟩ = some (.slice A n c) ∧ w'.cell? ⟨w.heap.size, 2, none⟩ = some (.int .i64 e) ∧ w'.frozen? ⟨w.heap.size, 0, none⟩ = false ∧ w'.frozen? ⟨w.heap.size, 1, none⟩ = false ∧ w'.frozen? ⟨w.heap.size, 2, none⟩ = false) ∧ (w'.cell? ⟨w.heap.size + 1, 0, none⟩ = some (.bool q) ∧ w'.cell? ⟨w.heap.size + 1, 1, none⟩ = some (.slice A' n' c') ∧ w'.cell? ⟨w.heap.size + 1, 2, none⟩ = some (.int .i64 f) ∧ w'.frozen? ⟨w.heap.size + 1, 0, none⟩ = false ∧ w'.frozen? ⟨w.heap.size + 1, 1, none⟩ = false ∧ w'.frozen? ⟨w.heap.size + 1, 2, none⟩ = false))) (first | exact HK.out _ ((by repeat (first | with_reducible assumption | with_reducible exact below_self _ | with_reducible refine below_drewN ?_ _ | with_reducible apply Below.drew | with_reducible refine below_alloc ?_ _)))) (first | (go_at_call 104; refine ((SY).out _ ?_).mono ?_; (repeat (first | with_reducible assumption | with_reducible exact below_self _ | with_reducible refine below_drewN ?_ _ | with_reducible apply Below.drew | with_reducible refine below_alloc ?_ _)); rintro r w5 ⟨A5, n5, c5, rfl, hA5, hb5⟩)); go_wp2_with fail; refine bodyPost_ret (v := .tuple #[(.slice A n c), (.slice A5 n5 c5), .int .i64 e]) (by simp [results, Tryd.results88, go_sem]) rfl ?_)
        exact ⟨A, n, c, xs, A5, n5, c5, _, e, rfl, H.below ((by repeat (first | with_reducible assumption | with_reducible exact below_self _ | with_reducible refine below_drewN ?_ _ | with_reducible apply Below.drew | with_reducible refine below_alloc ?_ _))), hA5.below ((by repeat (first | with_reducible assumption | with_reducible exact below_self _ | with_reducible refine below_drewN ?_ _ | with_reducible apply Below.drew | with_reducible refine below_alloc ?_ _))), HX.out, HY.out, below_on b1 ((by repeat (first | with_reducible assumption | with_reducible exact below_self _ | with_reducible refine below_drewN ?_ _ | with_reducible apply Below.drew | with_reducible refine below_alloc ?_ _)))⟩
end Go.Proofs.YtbfnjjnnlbchgaaDoor
