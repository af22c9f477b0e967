/- Walks and laws that the claim's row needs. No conditions. -/
import Derived.Deep.RegionHeld3
import Derived.Test.YteffemhapnbaeaaGreatDoorQab
set_option maxHeartbeats 16000000
set_option linter.unusedSimpArgs false
set_option linter.unusedVariables false
namespace Go.Proofs.YteffemhapnbaeaaGreatDoor
open Go.RowKit Num
set_option maxRecDepth 100000
def lvX (n n' : Nat) (v e f : Int) : Int := if n = 0 then 0 else if n' = 0 then v else v * 2 ^ (e - f).toNat
def lvY (n n' : Nat) (v e f : Int) : Int := if n = 0 then v else if n' = 0 then 0 else v * 2 ^ (f - e).toNat
def RetL (x y : Int) (w : World) (r : Ending) (w' : World) : Prop :=
 ∃ A1 n1 c1 X1 A2 n2 c2 X2 g, r = .returned (.tuple #[.slice A1 n1 c1, .slice A2 n2 c2, .int .i64 g]) ∧ Arr w' A1 n1 c1 X1 ∧ Arr w' A2 n2 c2 X2 ∧ val X1 = x ∧ val X2 = y ∧ Below w.heap.size w w'
theorem level (p q : Bool) (A A' : Option Addr) (n c n' c' : Nat) (xs ys : List Int) (e f : Int) (w : World) (h : Arr w A n c xs) (h' : Arr w A' n' c' ys) (hn : n ≤ 1000000) (hn' : n' ≤ 1000000)
  (he0 : -262144 ≤ e) (he1 : e ≤ 262144) (hf0 : -262144 ≤ f) (hf1 : f ≤ 262144) :
  Calls Tryz.prog 119 #[.agg #[.bool p, .slice A n c, .int .i64 e], .agg #[.bool q, .slice A' n' c', .int .i64 f]] w (RetL (lvX n n' (val xs) e f) (lvY n n' (val ys) e f) w) := by
 have nx := h.val_nonneg
 have ny := h'.val_nonneg
 have bx := Bg w #[.bool p, .slice A n c, .int .i64 e] 26
 have b0 := Ba (Bb w) (.cells #[.bool p, .slice A n c, .int .i64 e] 26)
 have by' := Bg (w.alloc (.cells #[.bool p, .slice A n c, .int .i64 e] 26)) #[.bool q, .slice A' n' c', .int .i64 f] 26
 have b1 := Ba b0 (.cells #[.bool q, .slice A' n' c', .int .i64 f] 26)
 have bx' := bx.later (Ba (Bb _) (.cells #[.bool q, .slice A' n' c', .int .i64 f] 26))
 obtain ⟨k0, k1, k2, f0, f1, f2⟩ := bx'.cell3
 have H := h.below b1
 have H' := h'.below b1
 have hsz : (w.alloc (.cells #[.bool p, .slice A n c, .int .i64 e] 26)).heap.size = w.heap.size + 1 := by simp
 have bz := by'
 rw [hsz] at bz
 clear hsz
 obtain ⟨j0, j1, j2, g0, g1, g2⟩ := bz.cell3
 have SX : ∀ (w1 : World) (hb : Below ((w.alloc (.cells #[.bool p, .slice A n c, .int .i64 e] 26)).alloc (.cells #[.bool q, .slice A' n' c', .int .i64 f] 26)).heap.size ((w.alloc (.cells #[.bool p, .slice A n c, .int .i64 e] 26)).alloc (.cells #[.bool q, .slice A' n' c', .int .i64 f] 26)) w1) (k : Int) (h0 : -9223372036854775808 ≤ k) (h1 : k ≤ 9223372036854775807), Calls Tryz.prog 100 #[.slice A n c, .int .i64 k] w1 fun r w5 => ∃ A5 n5 c5, r = .returned (.slice A5 n5 c5) ∧ Arr w5 A5 n5 c5 (wd (Ty (val xs) k)) ∧ Below ((w.alloc (.cells #[.bool p, .slice A n c, .int .i64 e] 26)).alloc (.cells #[.bool q, .slice A' n' c', .int .i64 f] 26)).heap.size ((w.alloc (.cells #[.bool p, .slice A n c, .int .i64 e] 26)).alloc (.cells #[.bool q, .slice A' n' c', .int .i64 f] 26)) w5 := by
  intro w1 hb k h0 h1
  refine (shl A n c xs k w1 (H.below hb) (by omega) h0 h1).mono ?_
  rintro r w5 ⟨A5, n5, c5, rfl, ha, hb5⟩
  exact ⟨A5, n5, c5, rfl, ha, Bc hb hb5⟩
 have SX := Be SX
 have SY : ∀ (w1 : World) (hb : Below ((w.alloc (.cells #[.bool p, .slice A n c, .int .i64 e] 26)).alloc (.cells #[.bool q, .slice A' n' c', .int .i64 f] 26)).heap.size ((w.alloc (.cells #[.bool p, .slice A n c, .int .i64 e] 26)).alloc (.cells #[.bool q, .slice A' n' c', .int .i64 f] 26)) w1) (k : Int) (h0 : -9223372036854775808 ≤ k) (h1 : k ≤ 9223372036854775807), Calls Tryz.prog 100 #[.slice A' n' c', .int .i64 k] w1 fun r w5 => ∃ A5 n5 c5, r = .returned (.slice A5 n5 c5) ∧ Arr w5 A5 n5 c5 (wd (Ty (val ys) k)) ∧ Below ((w.alloc (.cells #[.bool p, .slice A n c, .int .i64 e] 26)).alloc (.cells #[.bool q, .slice A' n' c', .int .i64 f] 26)).heap.size ((w.alloc (.cells #[.bool p, .slice A n c, .int .i64 e] 26)).alloc (.cells #[.bool q, .slice A' n' c', .int .i64 f] 26)) w5 := by
  intro w1 hb k h0 h1
  refine (shl A' n' c' ys k w1 (H'.below hb) (by omega) h0 h1).mono ?_
  rintro r w5 ⟨A5, n5, c5, rfl, ha, hb5⟩
  exact ⟨A5, n5, c5, rfl, ha, Bc hb hb5⟩
 have SY := Be SY
 have HK := Be (fun w1 (hb : Below ((w.alloc (.cells #[.bool p, .slice A n c, .int .i64 e] 26)).alloc (.cells #[.bool q, .slice A' n' c', .int .i64 f] 26)).heap.size ((w.alloc (.cells #[.bool p, .slice A n c, .int .i64 e] 26)).alloc (.cells #[.bool q, .slice A' n' c', .int .i64 f] 26)) w1) => And.intro (bx'.later hb).cell3 (bz.later hb).cell3)
 clear bx bx' by'
 by_cases hn0 : n = 0
 ·subst hn0
  have e1 : lvX 0 n' (val xs) e f = 0 := rfl
  have e2 : lvY 0 n' (val ys) e f = val ys := rfl
  rw [e1, e2]
  clear e1 e2
  go_enter Tryz.func119, Tryz.ntmps119
  go_wp2_with fail
  go_quiet (fail)
  go_wp2_with fail
  refine bodyPost_ret (v := .tuple #[.slice none 0 0, .slice A' n' c', .int .i64 f]) (by simp [results, Tryz.results119, go_sem]) rfl ?_
  exact ⟨none, 0, 0, [], A', n', c', ys, f, rfl, Arr.nothing _, h'.below ((by repeat with_reducible (first | assumption | exact Bb _ | refine Bd ?_ _ | apply Below.drew | refine Ba ?_ _))), rfl, rfl, (by repeat with_reducible (first | assumption | exact Bb _ | refine Bd ?_ _ | apply Below.drew | refine Ba ?_ _))⟩
 ·by_cases hm0 : n' = 0
  ·subst hm0
   have e1 : lvX n 0 (val xs) e f = val xs := by unfold lvX; rw [if_neg hn0, if_pos rfl]
   have e2 : lvY n 0 (val ys) e f = 0 := by unfold lvY; rw [if_neg hn0, if_pos rfl]
   rw [e1, e2]
   have d1 : ((n : Int) == 0) = false := beq_eq_false_iff_ne.2 (by omega)
   clear e1 e2
   go_enter Tryz.func119, Tryz.ntmps119
   go_wp2_with fail
   go_quiet (fail)
   go_wp2_with fail
   refine bodyPost_ret (v := .tuple #[.slice A n c, .slice none 0 0, .int .i64 e]) (by simp [results, Tryz.results119, go_sem]) rfl ?_
   exact ⟨A, n, c, xs, none, 0, 0, [], e, rfl, h.below ((by repeat with_reducible (first | assumption | exact Bb _ | refine Bd ?_ _ | apply Below.drew | refine Ba ?_ _))), Arr.nothing _, rfl, rfl, (by repeat with_reducible (first | assumption | exact Bb _ | refine Bd ?_ _ | apply Below.drew | refine Ba ?_ _))⟩
  ·have d1 : ((n : Int) == 0) = false := beq_eq_false_iff_ne.2 (by omega)
   have d2 : ((n' : Int) == 0) = false := beq_eq_false_iff_ne.2 (by omega)
   have e1 : lvX n n' (val xs) e f = val xs * 2 ^ (e - f).toNat := by unfold lvX; rw [if_neg hn0, if_neg hm0]
   have e2 : lvY n n' (val ys) e f = val ys * 2 ^ (f - e).toNat := by unfold lvY; rw [if_neg hn0, if_neg hm0]
   rw [e1, e2]
   clear e1 e2
   have W1 : IntKind.i64.wrap (e - f) = e - f := by rw [IntKind.wrap_i64]; omega
   have W2 : IntKind.i64.wrap (f - e) = f - e := by rw [IntKind.wrap_i64]; omega
   by_cases hef : f ≤ e
   ·have SX := Be (fun w' hb => SX.out w' hb (e - f) (by omega) (by omega))
    rw [Dm (by omega) (by omega)] at SX
    have HX : Hid (val (wd (val xs * 2 ^ (e - f).toNat)) = val xs * 2 ^ (e - f).toNat) := val_wd _ (Int.mul_nonneg nx (Int.le_of_lt (pw_pos _)))
    have HY : Hid (val ys = val ys * 2 ^ (f - e).toNat) := by show _ = _; rw [show (f - e).toNat = 0 by omega]; simp
    generalize val xs * 2 ^ (e - f).toNat = lx at *
    generalize val ys * 2 ^ (f - e).toNat = ly at *
    clear h h' nx ny SY bz W2
    (go_enter Tryz.func119, Tryz.ntmps119; go_wp2_with fail; generalize ((w.alloc (.cells #[.bool p, .slice A n c, .int .i64 e] 26)).alloc (.cells #[.bool q, .slice A' n' c', .int .i64 f] 26)) = W at *; go_region_held3 (fun w' => ((w'.cell? ⟨w.heap.size, 0, none⟩ = some (.bool p) ∧ w'.cell? ⟨w.heap.size, 1, none⟩ = some (.slice A n c) ∧ w'.cell? ⟨w.heap.size, 2, none⟩ = some (.int .i64 e) ∧ w'.frozen? ⟨w.heap.size, 0, none⟩ = false ∧ w'.frozen? ⟨w.heap.size, 1, none⟩ = false ∧ w'.frozen? ⟨w.heap.size, 2, none⟩ = false) ∧ (w'.cell? ⟨w.heap.size + 1, 0, none⟩ = some (.bool q) ∧ w'.cell? ⟨w.heap.size + 1, 1, none⟩ = some (.slice A' n' c') ∧ w'.cell? ⟨w.heap.size + 1, 2, none⟩ = some (.int .i64 f) ∧ w'.frozen? ⟨w.heap.size + 1, 0, none⟩ = false ∧ w'.frozen? ⟨w.heap.size + 1, 1, none⟩ = false ∧ w'.frozen? ⟨w.heap.size + 1, 2, none⟩ = false))) (first | exact HK.out _ ((by repeat with_reducible (first | assumption | exact Bb _ | refine Bd ?_ _ | apply Below.drew | refine Ba ?_ _)))) (first | (go_at_call 100; refine ((SX).out _ ?_).mono ?_; (repeat with_reducible (first | assumption | exact Bb _ | refine Bd ?_ _ | apply Below.drew | refine Ba ?_ _)); rintro r w5 ⟨A5, n5, c5, rfl, hA5, hb5⟩)); go_wp2_with fail; refine bodyPost_ret (v := .tuple #[(.slice A5 n5 c5), (.slice A' n' c'), .int .i64 f]) (by simp [results, Tryz.results119, go_sem]) rfl ?_)
    exact ⟨A5, n5, c5, _, A', n', c', ys, f, rfl, hA5.below ((by repeat with_reducible (first | assumption | exact Bb _ | refine Bd ?_ _ | apply Below.drew | refine Ba ?_ _))), H'.below ((by repeat with_reducible (first | assumption | exact Bb _ | refine Bd ?_ _ | apply Below.drew | refine Ba ?_ _))), HX.out, HY.out, Bc b1 ((by repeat with_reducible (first | assumption | exact Bb _ | refine Bd ?_ _ | apply Below.drew | refine Ba ?_ _)))⟩
   ·have SY := Be (fun w' hb => SY.out w' hb (f - e) (by omega) (by omega))
    rw [Dm (by omega) (by omega)] at SY
    have HY : Hid (val (wd (val ys * 2 ^ (f - e).toNat)) = val ys * 2 ^ (f - e).toNat) := val_wd _ (Int.mul_nonneg ny (Int.le_of_lt (pw_pos _)))
    have HX : Hid (val xs = val xs * 2 ^ (e - f).toNat) := by show _ = _; rw [show (e - f).toNat = 0 by omega]; simp
    have d3 : decide (f ≤ e) = false := by simp; omega
    have d4 : decide (e ≥ f) = false := by simp; omega
    generalize val xs * 2 ^ (e - f).toNat = lx at *
    generalize val ys * 2 ^ (f - e).toNat = ly at *
    clear h h' nx ny SX bz W1
    (go_enter Tryz.func119, Tryz.ntmps119; go_wp2_with fail; generalize ((w.alloc (.cells #[.bool p, .slice A n c, .int .i64 e] 26)).alloc (.cells #[.bool q, .slice A' n' c', .int .i64 f] 26)) = W at *; go_region_held3 (fun w' => ((w'.cell? ⟨w.heap.size, 0, none⟩ = some (.bool p) ∧ w'.cell? ⟨w.heap.size, 1, none⟩ = some (.slice A n c) ∧ w'.cell? ⟨w.heap.size, 2, none⟩ = some (.int .i64 e) ∧ w'.frozen? ⟨w.heap.size, 0, none⟩ = false ∧ w'.frozen? ⟨w.heap.size, 1, none⟩ = false ∧ w'.frozen? ⟨w.heap.size, 2, none⟩ = false) ∧ (w'.cell? ⟨w.heap.size + 1, 0, none⟩ = some (.bool q) ∧ w'.cell? ⟨w.heap.size + 1, 1, none⟩ = some (.slice A' n' c') ∧ w'.cell? ⟨w.heap.size + 1, 2, none⟩ = some (.int .i64 f) ∧ w'.frozen? ⟨w.heap.size + 1, 0, none⟩ = false ∧ w'.frozen? ⟨w.heap.size + 1, 1, none⟩ = false ∧ w'.frozen? ⟨w.heap.size + 1, 2, none⟩ = false))) (first | exact HK.out _ ((by repeat with_reducible (first | assumption | exact Bb _ | refine Bd ?_ _ | apply Below.drew | refine Ba ?_ _)))) (first | (go_at_call 100; refine ((SY).out _ ?_).mono ?_; (repeat with_reducible (first | assumption | exact Bb _ | refine Bd ?_ _ | apply Below.drew | refine Ba ?_ _)); rintro r w5 ⟨A5, n5, c5, rfl, hA5, hb5⟩)); go_wp2_with fail; refine bodyPost_ret (v := .tuple #[(.slice A n c), (.slice A5 n5 c5), .int .i64 e]) (by simp [results, Tryz.results119, go_sem]) rfl ?_)
    exact ⟨A, n, c, xs, A5, n5, c5, _, e, rfl, H.below ((by repeat with_reducible (first | assumption | exact Bb _ | refine Bd ?_ _ | apply Below.drew | refine Ba ?_ _))), hA5.below ((by repeat with_reducible (first | assumption | exact Bb _ | refine Bd ?_ _ | apply Below.drew | refine Ba ?_ _))), HX.out, HY.out, Bc b1 ((by repeat with_reducible (first | assumption | exact Bb _ | refine Bd ?_ _ | apply Below.drew | refine Ba ?_ _)))⟩
theorem Ha {W : World} (p q : Bool) (A A' : Option Addr) (n c n' c' : Nat) (xs ys : List Int) (e f : Int) (h : Arr W A n c xs) (h' : Arr W A' n' c' ys) (t : TypeId) :
  DVs (W.alloc (.cells #[.bool p, .slice A n c, .int .i64 e, .bool q, .slice A' n' c', .int .i64 f] t)) W.heap.size [⟨p, A, n, c, xs, e⟩, ⟨q, A', n', c', ys, f⟩] := by
 have hb := Ba (Bb W) (.cells #[.bool p, .slice A n c, .int .i64 e, .bool q, .slice A' n' c', .int .i64 f] t)
 have bx := Bg W #[.bool p, .slice A n c, .int .i64 e, .bool q, .slice A' n' c', .int .i64 f] t
 refine ⟨bx.lt, fun j hj => ?_, fun j hj => ?_, fun j hj => ?_, fun j hj => ?_⟩
 all_goals
  have hj2 : j = 0 ∨ j = 1 := by simp at hj; omega
  rcases hj2 with rfl | rfl
 ·exact h.below hb
 ·exact h'.below hb
 all_goals exact bx.cell _
def Mq (p q : Bool) (xs ys : List Int) (e f : Int) : Value :=
 .tuple #[.int .i64 (if Bq p xs e && Bq q ys f then Hf ⟨p, val xs, e⟩ ⟨q, val ys, f⟩ else 0), .bool (Bq p xs e && Bq q ys f)]
theorem Bbd {p : Bool} {xs ys : List Int} {e f : Int} {n n' : Nat} (ha : PD ⟨p, val xs, e⟩) (hn : xs.length = n) (hn' : ys.length = n') :
  Hf ⟨p, val xs, e⟩ ⟨p, val ys, f⟩ = (if p then -1 else 1) * Cs (lvX n n' (val xs) e f) (lvY n n' (val ys) e f) := by
 by_cases h0 : n = 0
 ·have ex : val xs = 0 := by rw [List.length_eq_zero_iff.1 (hn.trans h0)]; rfl
  have := Lt (a := ⟨p, val xs, e⟩) (b := ⟨p, val ys, f⟩) rfl ha ex
  rw [this]
  unfold lvX lvY
  rw [if_pos h0, if_pos h0]
 ·by_cases h1 : n' = 0
  ·have ey : val ys = 0 := by rw [List.length_eq_zero_iff.1 (hn'.trans h1)]; rfl
   have := Ko (a := ⟨p, val xs, e⟩) (b := ⟨p, val ys, f⟩) rfl ey
   rw [this]
   unfold lvX lvY
   rw [if_neg h0, if_neg h0, if_pos h1, if_pos h1]
  ·unfold lvX lvY
   rw [if_neg h0, if_neg h0, if_neg h1, if_neg h1]
   by_cases h2 : f ≤ e
   ·have := Bgm (a := ⟨p, val xs, e⟩) (b := ⟨p, val ys, f⟩) rfl h2
    rw [this, show (f - e).toNat = 0 by omega]
    simp
   ·have := Bgo (a := ⟨p, val xs, e⟩) (b := ⟨p, val ys, f⟩) rfl (show e ≤ f by omega)
    rw [this, show (e - f).toNat = 0 by omega]
    simp
theorem So (x y : Int) : -1 ≤ Cs x y ∧ Cs x y ≤ 1 := by unfold Cs; repeat' split <;> omega
def Two (w' : World) (k : Nat) (p q : Bool) (A A' : Option Addr) (n c n' c' : Nat) (e f : Int) : Prop :=
 ((w'.cell? ⟨k, 0, none⟩ = some (.bool p) ∧ w'.cell? ⟨k, 1, none⟩ = some (.slice A n c) ∧ w'.cell? ⟨k, 2, none⟩ = some (.int .i64 e) ∧ w'.frozen? ⟨k, 0, none⟩ = false ∧ w'.frozen? ⟨k, 1, none⟩ = false ∧ w'.frozen? ⟨k, 2, none⟩ = false) ∧ (w'.cell? ⟨k + 1, 0, none⟩ = some (.bool q) ∧ w'.cell? ⟨k + 1, 1, none⟩ = some (.slice A' n' c') ∧ w'.cell? ⟨k + 1, 2, none⟩ = some (.int .i64 f) ∧ w'.frozen? ⟨k + 1, 0, none⟩ = false ∧ w'.frozen? ⟨k + 1, 1, none⟩ = false ∧ w'.frozen? ⟨k + 1, 2, none⟩ = false))
theorem dcmp (p q : Bool) (A A' : Option Addr) (n c n' c' : Nat) (xs ys : List Int) (e f : Int) (w : World) (h : Arr w A n c xs) (h' : Arr w A' n' c' ys) :
  Calls Tryz.prog 84 #[.agg #[.bool p, .slice A n c, .int .i64 e], .agg #[.bool q, .slice A' n' c', .int .i64 f]] w fun r w' => r = .returned (Mq p q xs ys e f) ∧ Below w.heap.size w w' := by
 have bx := Bg w #[.bool p, .slice A n c, .int .i64 e] 26
 have b0 := Ba (Bb w) (.cells #[.bool p, .slice A n c, .int .i64 e] 26)
 have bz := Bg (w.alloc (.cells #[.bool p, .slice A n c, .int .i64 e] 26)) #[.bool q, .slice A' n' c', .int .i64 f] 26
 have b1 := Ba b0 (.cells #[.bool q, .slice A' n' c', .int .i64 f] 26)
 have bx' := bx.later (Ba (Bb _) (.cells #[.bool q, .slice A' n' c', .int .i64 f] 26))
 have hsz : (w.alloc (.cells #[.bool p, .slice A n c, .int .i64 e] 26)).heap.size = w.heap.size + 1 := by simp
 rw [hsz] at bz
 clear hsz bx b0
 obtain ⟨k0, k1, k2, f0, f1, f2⟩ := bx'.cell3
 obtain ⟨j0, j1, j2, g0, g1, g2⟩ := bz.cell3
 have H := h.below b1
 have H' := h'.below b1
 have DV := Ha p q A A' n c n' c' xs ys e f H H' 26
 rw [show ((w.alloc (.cells #[.bool p, .slice A n c, .int .i64 e] 26)).alloc (.cells #[.bool q, .slice A' n' c', .int .i64 f] 26)).heap.size = w.heap.size + 1 + 1 by simp] at DV
 have bW := Ba (Bb ((w.alloc (.cells #[.bool p, .slice A n c, .int .i64 e] 26)).alloc (.cells #[.bool q, .slice A' n' c', .int .i64 f] 26))) (.cells #[.bool p, .slice A n c, .int .i64 e, .bool q, .slice A' n' c', .int .i64 f] 26)
 have PL := Bd2 _ 2 _ rfl _ DV (by decide)
 have b2 := Bc b1 bW
 have KW := fun w3 hb => (And.intro (bx'.later (Bc bW hb)).cell3 (bz.later (Bc bW hb)).cell3 : Two w3 w.heap.size p q A A' n c n' c' e f)
 clear bx' bz DV
 have ea : [DV.mk p A n c xs e, DV.mk q A' n' c' ys f].all DV.plain = (Bq p xs e && Bq q ys f) := by simp [DV.plain]
 rw [ea] at PL
 clear ea
 have PL := Be PL
 have KW := Be KW
 cases hpl : Bq p xs e && Bq q ys f
 ·rw [hpl] at PL
  have er : Mq p q xs ys e f = .tuple #[.int .i64 0, .bool false] := by unfold Mq; rw [hpl]; rfl
  rw [er]
  clear er KW
  go_enter Tryz.func84, Tryz.ntmps84
  go_wp2_with fail
  refine PL.out.mono ?_; rintro r w3 ⟨rfl, hb3⟩
  have hw3 := Bc b2 hb3
  go_wp2_with fail
  go_ret2
  exact ⟨rfl, hw3⟩
 ·rw [hpl] at PL
  have er : Mq p q xs ys e f = .tuple #[.int .i64 (Hf ⟨p, val xs, e⟩ ⟨q, val ys, f⟩), .bool true] := by unfold Mq; rw [hpl]; rfl
  rw [er]
  clear er
  rw [Bool.and_eq_true] at hpl
  obtain ⟨pd1, l1, -, v1⟩ := Bm h.wf hpl.1
  obtain ⟨pd2, l2, -, v2⟩ := Bm h'.wf hpl.2
  have hl := h.len
  have hl' := h'.len
  have he := pd1.lo
  have he' := pd1.hi
  have hf := pd2.lo
  have hf' := pd2.hi
  simp only at he he' hf hf'
  by_cases hpq : p = q
  ·subst hpq
   have hlev := Bbd (f := f) pd1 hl hl'
   have cr := So (lvX n n' (val xs) e f) (lvY n n' (val ys) e f)
   have LV := Be (fun w1 hb => level p p A A' n c n' c' xs ys e f w1 (H.below (Bc bW hb)) (H'.below (Bc bW hb)) (by omega) (by omega) he he' hf hf')
   by_cases hboth : 0 < n ∧ 0 < n'
   ·obtain ⟨hn0, hm0⟩ := hboth
    have vx := v1 (by omega)
    have vy := v2 (by omega)
    have TA := Be (fun w1 hb => Bbj p A n c xs e w1 (H.below (Bc bW hb)) (by omega) (by omega) (by omega))
    have TB := Be (fun w1 hb => Bbj p A' n' c' ys f w1 (H'.below (Bc bW hb)) (by omega) (by omega) (by omega))
    have clt := fun hh => Bgp (a := ⟨p, val xs, e⟩) (b := ⟨p, val ys, f⟩) rfl vx.1 vy.1 hh
    have cgt := fun hh => Bgn (a := ⟨p, val xs, e⟩) (b := ⟨p, val ys, f⟩) rfl vx.1 vy.1 hh
    simp only at clt cgt
    generalize bl (val xs) + e = ta at *
    generalize bl (val ys) + f = tb at *
    have d1 : decide ((n : Int) > 0) = true := by simp; omega
    have d2 : decide ((n' : Int) > 0) = true := by simp; omega
    rcases Int.lt_trichotomy ta tb with ht | ht | ht
    ·have hcd := clt ht
     rw [hcd]
     have t1 : decide (ta < tb) = true := by simp; omega
     clear hlev cr hcd clt cgt v1 v2 vx vy pd1 pd2 l1 l2 hl hl' k0 k1 k2 f0 f1 f2 j0 j1 j2 g0 g1 g2 h h' H H' he he' hf hf' bW LV
     cases p
     ·(go_enter Tryz.func84, Tryz.ntmps84; go_wp2_with fail; refine PL.out.mono ?_; rintro r w3 ⟨rfl, hb3⟩; (obtain ⟨⟨k0', k1', k2', f0', f1', f2'⟩, ⟨j0', j1', j2', g0', g1', g2'⟩⟩ := KW.out w3 hb3; have hw3 := Bc b2 hb3; have KW3 := Be (fun w1 (hb : Below w3.heap.size w3 w1) => KW.out w1 (Bc hb3 hb)); have TA3 := Be (fun w1 (hb : Below w3.heap.size w3 w1) => (TA.out w1 (Bc hb3 hb)).mono (fun r w' (hh : r = _ ∧ _) => And.intro hh.1 (Bc hb hh.2))); have TB3 := Be (fun w1 (hb : Below w3.heap.size w3 w1) => (TB.out w1 (Bc hb3 hb)).mono (fun r w' (hh : r = _ ∧ _) => And.intro hh.1 (Bc hb hh.2))); clear b1 b2 hb3 PL KW TA TB; go_wp2_with fail; (go_region_held3 (fun w' => ((w'.cell? ⟨w.heap.size, 0, none⟩ = some (.bool false) ∧ w'.cell? ⟨w.heap.size, 1, none⟩ = some (.slice A n c) ∧ w'.cell? ⟨w.heap.size, 2, none⟩ = some (.int .i64 e) ∧ w'.frozen? ⟨w.heap.size, 0, none⟩ = false ∧ w'.frozen? ⟨w.heap.size, 1, none⟩ = false ∧ w'.frozen? ⟨w.heap.size, 2, none⟩ = false) ∧ (w'.cell? ⟨w.heap.size + 1, 0, none⟩ = some (.bool false) ∧ w'.cell? ⟨w.heap.size + 1, 1, none⟩ = some (.slice A' n' c') ∧ w'.cell? ⟨w.heap.size + 1, 2, none⟩ = some (.int .i64 f) ∧ w'.frozen? ⟨w.heap.size + 1, 0, none⟩ = false ∧ w'.frozen? ⟨w.heap.size + 1, 1, none⟩ = false ∧ w'.frozen? ⟨w.heap.size + 1, 2, none⟩ = false))) (first | exact KW3.out _ ((by repeat with_reducible (first | assumption | exact Bb _ | refine Bd ?_ _ | apply Below.drew | refine Ba ?_ _)))) (first | (go_at_call 118; refine (TA3.out _ ?_).mono ?_; (repeat with_reducible (first | assumption | exact Bb _ | refine Bd ?_ _ | apply Below.drew | refine Ba ?_ _)); rintro r w5 ⟨rfl, hb5⟩) | (go_at_call 118; refine (TB3.out _ ?_).mono ?_; (repeat with_reducible (first | assumption | exact Bb _ | refine Bd ?_ _ | apply Below.drew | refine Ba ?_ _)); rintro r w6 ⟨rfl, hb6⟩)))); go_wp2_with fail; go_ret2; exact ⟨by simp, hw3.trans ((by repeat with_reducible (first | assumption | exact Bb _ | refine Bd ?_ _ | apply Below.drew | refine Ba ?_ _) : Below w3.heap.size w3 _).mono hw3.size)⟩)
     ·(go_enter Tryz.func84, Tryz.ntmps84; go_wp2_with fail; refine PL.out.mono ?_; rintro r w3 ⟨rfl, hb3⟩; (obtain ⟨⟨k0', k1', k2', f0', f1', f2'⟩, ⟨j0', j1', j2', g0', g1', g2'⟩⟩ := KW.out w3 hb3; have hw3 := Bc b2 hb3; have KW3 := Be (fun w1 (hb : Below w3.heap.size w3 w1) => KW.out w1 (Bc hb3 hb)); have TA3 := Be (fun w1 (hb : Below w3.heap.size w3 w1) => (TA.out w1 (Bc hb3 hb)).mono (fun r w' (hh : r = _ ∧ _) => And.intro hh.1 (Bc hb hh.2))); have TB3 := Be (fun w1 (hb : Below w3.heap.size w3 w1) => (TB.out w1 (Bc hb3 hb)).mono (fun r w' (hh : r = _ ∧ _) => And.intro hh.1 (Bc hb hh.2))); clear b1 b2 hb3 PL KW TA TB; go_wp2_with fail; (go_region_held3 (fun w' => ((w'.cell? ⟨w.heap.size, 0, none⟩ = some (.bool true) ∧ w'.cell? ⟨w.heap.size, 1, none⟩ = some (.slice A n c) ∧ w'.cell? ⟨w.heap.size, 2, none⟩ = some (.int .i64 e) ∧ w'.frozen? ⟨w.heap.size, 0, none⟩ = false ∧ w'.frozen? ⟨w.heap.size, 1, none⟩ = false ∧ w'.frozen? ⟨w.heap.size, 2, none⟩ = false) ∧ (w'.cell? ⟨w.heap.size + 1, 0, none⟩ = some (.bool true) ∧ w'.cell? ⟨w.heap.size + 1, 1, none⟩ = some (.slice A' n' c') ∧ w'.cell? ⟨w.heap.size + 1, 2, none⟩ = some (.int .i64 f) ∧ w'.frozen? ⟨w.heap.size + 1, 0, none⟩ = false ∧ w'.frozen? ⟨w.heap.size + 1, 1, none⟩ = false ∧ w'.frozen? ⟨w.heap.size + 1, 2, none⟩ = false))) (first | exact KW3.out _ ((by repeat with_reducible (first | assumption | exact Bb _ | refine Bd ?_ _ | apply Below.drew | refine Ba ?_ _)))) (first | (go_at_call 118; refine (TA3.out _ ?_).mono ?_; (repeat with_reducible (first | assumption | exact Bb _ | refine Bd ?_ _ | apply Below.drew | refine Ba ?_ _)); rintro r w5 ⟨rfl, hb5⟩) | (go_at_call 118; refine (TB3.out _ ?_).mono ?_; (repeat with_reducible (first | assumption | exact Bb _ | refine Bd ?_ _ | apply Below.drew | refine Ba ?_ _)); rintro r w6 ⟨rfl, hb6⟩)))); go_wp2_with fail; go_ret2; exact ⟨by simp, hw3.trans ((by repeat with_reducible (first | assumption | exact Bb _ | refine Bd ?_ _ | apply Below.drew | refine Ba ?_ _) : Below w3.heap.size w3 _).mono hw3.size)⟩)
    ·rw [hlev]
     generalize lvX n n' (val xs) e f = lx at *
     generalize lvY n n' (val ys) e f = ly at *
     generalize hcm : Cs lx ly = cm at *
     have HCM := Be hcm
     have t1 : decide (ta < tb) = false := by simp; omega
     have t2 : decide (ta > tb) = false := by simp; omega
     clear hcm hlev clt cgt v1 v2 vx vy pd1 pd2 l1 l2 hl hl' k0 k1 k2 f0 f1 f2 j0 j1 j2 g0 g1 g2 h h' H H' he he' hf hf' bW
     cases p
     ·(go_enter Tryz.func84, Tryz.ntmps84; go_wp2_with fail; refine PL.out.mono ?_; rintro r w3 ⟨rfl, hb3⟩; have LV3 := Be (fun w1 (hb : Below w3.heap.size w3 w1) => LV.out w1 (Bc hb3 hb)); (obtain ⟨⟨k0', k1', k2', f0', f1', f2'⟩, ⟨j0', j1', j2', g0', g1', g2'⟩⟩ := KW.out w3 hb3; have hw3 := Bc b2 hb3; have KW3 := Be (fun w1 (hb : Below w3.heap.size w3 w1) => KW.out w1 (Bc hb3 hb)); have TA3 := Be (fun w1 (hb : Below w3.heap.size w3 w1) => (TA.out w1 (Bc hb3 hb)).mono (fun r w' (hh : r = _ ∧ _) => And.intro hh.1 (Bc hb hh.2))); have TB3 := Be (fun w1 (hb : Below w3.heap.size w3 w1) => (TB.out w1 (Bc hb3 hb)).mono (fun r w' (hh : r = _ ∧ _) => And.intro hh.1 (Bc hb hh.2))); clear b1 b2 hb3 PL KW TA TB; go_wp2_with fail; (go_region_held3 (fun w' => ((w'.cell? ⟨w.heap.size, 0, none⟩ = some (.bool false) ∧ w'.cell? ⟨w.heap.size, 1, none⟩ = some (.slice A n c) ∧ w'.cell? ⟨w.heap.size, 2, none⟩ = some (.int .i64 e) ∧ w'.frozen? ⟨w.heap.size, 0, none⟩ = false ∧ w'.frozen? ⟨w.heap.size, 1, none⟩ = false ∧ w'.frozen? ⟨w.heap.size, 2, none⟩ = false) ∧ (w'.cell? ⟨w.heap.size + 1, 0, none⟩ = some (.bool false) ∧ w'.cell? ⟨w.heap.size + 1, 1, none⟩ = some (.slice A' n' c') ∧ w'.cell? ⟨w.heap.size + 1, 2, none⟩ = some (.int .i64 f) ∧ w'.frozen? ⟨w.heap.size + 1, 0, none⟩ = false ∧ w'.frozen? ⟨w.heap.size + 1, 1, none⟩ = false ∧ w'.frozen? ⟨w.heap.size + 1, 2, none⟩ = false))) (first | exact KW3.out _ ((by repeat with_reducible (first | assumption | exact Bb _ | refine Bd ?_ _ | apply Below.drew | refine Ba ?_ _)))) (first | (go_at_call 118; refine (TA3.out _ ?_).mono ?_; (repeat with_reducible (first | assumption | exact Bb _ | refine Bd ?_ _ | apply Below.drew | refine Ba ?_ _)); rintro r w5 ⟨rfl, hb5⟩) | (go_at_call 118; refine (TB3.out _ ?_).mono ?_; (repeat with_reducible (first | assumption | exact Bb _ | refine Bd ?_ _ | apply Below.drew | refine Ba ?_ _)); rintro r w6 ⟨rfl, hb6⟩)))); go_wp2_with fail; (go_region_held3 (fun w' => ((w'.cell? ⟨w.heap.size, 0, none⟩ = some (.bool false) ∧ w'.cell? ⟨w.heap.size, 1, none⟩ = some (.slice A n c) ∧ w'.cell? ⟨w.heap.size, 2, none⟩ = some (.int .i64 e) ∧ w'.frozen? ⟨w.heap.size, 0, none⟩ = false ∧ w'.frozen? ⟨w.heap.size, 1, none⟩ = false ∧ w'.frozen? ⟨w.heap.size, 2, none⟩ = false) ∧ (w'.cell? ⟨w.heap.size + 1, 0, none⟩ = some (.bool false) ∧ w'.cell? ⟨w.heap.size + 1, 1, none⟩ = some (.slice A' n' c') ∧ w'.cell? ⟨w.heap.size + 1, 2, none⟩ = some (.int .i64 f) ∧ w'.frozen? ⟨w.heap.size + 1, 0, none⟩ = false ∧ w'.frozen? ⟨w.heap.size + 1, 1, none⟩ = false ∧ w'.frozen? ⟨w.heap.size + 1, 2, none⟩ = false))) (first | exact KW3.out _ ((by repeat with_reducible (first | assumption | exact Bb _ | refine Bd ?_ _ | apply Below.drew | refine Ba ?_ _)))) (first | (go_at_call 118; refine (TA3.out _ ?_).mono ?_; (repeat with_reducible (first | assumption | exact Bb _ | refine Bd ?_ _ | apply Below.drew | refine Ba ?_ _)); rintro r w5 ⟨rfl, hb5⟩) | (go_at_call 118; refine (TB3.out _ ?_).mono ?_; (repeat with_reducible (first | assumption | exact Bb _ | refine Bd ?_ _ | apply Below.drew | refine Ba ?_ _)); rintro r w6 ⟨rfl, hb6⟩))); go_wp2_with fail; refine (LV3.out _ ((by repeat with_reducible (first | assumption | exact Bb _ | refine Bd ?_ _ | apply Below.drew | refine Ba ?_ _)))).mono ?_; rintro r w5 ⟨A1, n1, c1, X1, A2, n2, c2, X2, gg, rfl, ha1, ha2, e1, e2, hb5⟩; have hw5 := Bc (hw3.trans ((by repeat with_reducible (first | assumption | exact Bb _ | refine Bd ?_ _ | apply Below.drew | refine Ba ?_ _) : Below w3.heap.size w3 _).mono hw3.size)) hb5; have C := Qp A1 A2 n1 c1 n2 c2 X1 X2 w5 ha1 ha2; rw [e1, e2, HCM.out] at C; have C := Be C; clear e1 e2 ha1 ha2 hb5; go_wp2_with fail; refine C.out.mono ?_; rintro r w6 ⟨rfl, hs6⟩; have hw6 := hw5.trans (hs6.below _); go_wp2_with fail; go_ret2; exact ⟨by simp, hw6⟩)
     ·(go_enter Tryz.func84, Tryz.ntmps84; go_wp2_with fail; refine PL.out.mono ?_; rintro r w3 ⟨rfl, hb3⟩; have LV3 := Be (fun w1 (hb : Below w3.heap.size w3 w1) => LV.out w1 (Bc hb3 hb)); (obtain ⟨⟨k0', k1', k2', f0', f1', f2'⟩, ⟨j0', j1', j2', g0', g1', g2'⟩⟩ := KW.out w3 hb3; have hw3 := Bc b2 hb3; have KW3 := Be (fun w1 (hb : Below w3.heap.size w3 w1) => KW.out w1 (Bc hb3 hb)); have TA3 := Be (fun w1 (hb : Below w3.heap.size w3 w1) => (TA.out w1 (Bc hb3 hb)).mono (fun r w' (hh : r = _ ∧ _) => And.intro hh.1 (Bc hb hh.2))); have TB3 := Be (fun w1 (hb : Below w3.heap.size w3 w1) => (TB.out w1 (Bc hb3 hb)).mono (fun r w' (hh : r = _ ∧ _) => And.intro hh.1 (Bc hb hh.2))); clear b1 b2 hb3 PL KW TA TB; go_wp2_with fail; (go_region_held3 (fun w' => ((w'.cell? ⟨w.heap.size, 0, none⟩ = some (.bool true) ∧ w'.cell? ⟨w.heap.size, 1, none⟩ = some (.slice A n c) ∧ w'.cell? ⟨w.heap.size, 2, none⟩ = some (.int .i64 e) ∧ w'.frozen? ⟨w.heap.size, 0, none⟩ = false ∧ w'.frozen? ⟨w.heap.size, 1, none⟩ = false ∧ w'.frozen? ⟨w.heap.size, 2, none⟩ = false) ∧ (w'.cell? ⟨w.heap.size + 1, 0, none⟩ = some (.bool true) ∧ w'.cell? ⟨w.heap.size + 1, 1, none⟩ = some (.slice A' n' c') ∧ w'.cell? ⟨w.heap.size + 1, 2, none⟩ = some (.int .i64 f) ∧ w'.frozen? ⟨w.heap.size + 1, 0, none⟩ = false ∧ w'.frozen? ⟨w.heap.size + 1, 1, none⟩ = false ∧ w'.frozen? ⟨w.heap.size + 1, 2, none⟩ = false))) (first | exact KW3.out _ ((by repeat with_reducible (first | assumption | exact Bb _ | refine Bd ?_ _ | apply Below.drew | refine Ba ?_ _)))) (first | (go_at_call 118; refine (TA3.out _ ?_).mono ?_; (repeat with_reducible (first | assumption | exact Bb _ | refine Bd ?_ _ | apply Below.drew | refine Ba ?_ _)); rintro r w5 ⟨rfl, hb5⟩) | (go_at_call 118; refine (TB3.out _ ?_).mono ?_; (repeat with_reducible (first | assumption | exact Bb _ | refine Bd ?_ _ | apply Below.drew | refine Ba ?_ _)); rintro r w6 ⟨rfl, hb6⟩)))); go_wp2_with fail; (go_region_held3 (fun w' => ((w'.cell? ⟨w.heap.size, 0, none⟩ = some (.bool true) ∧ w'.cell? ⟨w.heap.size, 1, none⟩ = some (.slice A n c) ∧ w'.cell? ⟨w.heap.size, 2, none⟩ = some (.int .i64 e) ∧ w'.frozen? ⟨w.heap.size, 0, none⟩ = false ∧ w'.frozen? ⟨w.heap.size, 1, none⟩ = false ∧ w'.frozen? ⟨w.heap.size, 2, none⟩ = false) ∧ (w'.cell? ⟨w.heap.size + 1, 0, none⟩ = some (.bool true) ∧ w'.cell? ⟨w.heap.size + 1, 1, none⟩ = some (.slice A' n' c') ∧ w'.cell? ⟨w.heap.size + 1, 2, none⟩ = some (.int .i64 f) ∧ w'.frozen? ⟨w.heap.size + 1, 0, none⟩ = false ∧ w'.frozen? ⟨w.heap.size + 1, 1, none⟩ = false ∧ w'.frozen? ⟨w.heap.size + 1, 2, none⟩ = false))) (first | exact KW3.out _ ((by repeat with_reducible (first | assumption | exact Bb _ | refine Bd ?_ _ | apply Below.drew | refine Ba ?_ _)))) (first | (go_at_call 118; refine (TA3.out _ ?_).mono ?_; (repeat with_reducible (first | assumption | exact Bb _ | refine Bd ?_ _ | apply Below.drew | refine Ba ?_ _)); rintro r w5 ⟨rfl, hb5⟩) | (go_at_call 118; refine (TB3.out _ ?_).mono ?_; (repeat with_reducible (first | assumption | exact Bb _ | refine Bd ?_ _ | apply Below.drew | refine Ba ?_ _)); rintro r w6 ⟨rfl, hb6⟩))); go_wp2_with fail; refine (LV3.out _ ((by repeat with_reducible (first | assumption | exact Bb _ | refine Bd ?_ _ | apply Below.drew | refine Ba ?_ _)))).mono ?_; rintro r w5 ⟨A1, n1, c1, X1, A2, n2, c2, X2, gg, rfl, ha1, ha2, e1, e2, hb5⟩; have hw5 := Bc (hw3.trans ((by repeat with_reducible (first | assumption | exact Bb _ | refine Bd ?_ _ | apply Below.drew | refine Ba ?_ _) : Below w3.heap.size w3 _).mono hw3.size)) hb5; have C := Qp A1 A2 n1 c1 n2 c2 X1 X2 w5 ha1 ha2; rw [e1, e2, HCM.out] at C; have C := Be C; clear e1 e2 ha1 ha2 hb5; go_wp2_with fail; refine C.out.mono ?_; rintro r w6 ⟨rfl, hs6⟩; have hw6 := hw5.trans (hs6.below _); go_wp2_with fail; go_ret2; exact ⟨by simp, hw6⟩)
    ·have hcd := cgt ht
     rw [hcd]
     have t1 : decide (ta < tb) = false := by simp; omega
     have t2 : decide (ta > tb) = true := by simp; omega
     clear hlev cr hcd clt cgt v1 v2 vx vy pd1 pd2 l1 l2 hl hl' k0 k1 k2 f0 f1 f2 j0 j1 j2 g0 g1 g2 h h' H H' he he' hf hf' bW LV
     cases p
     ·(go_enter Tryz.func84, Tryz.ntmps84; go_wp2_with fail; refine PL.out.mono ?_; rintro r w3 ⟨rfl, hb3⟩; (obtain ⟨⟨k0', k1', k2', f0', f1', f2'⟩, ⟨j0', j1', j2', g0', g1', g2'⟩⟩ := KW.out w3 hb3; have hw3 := Bc b2 hb3; have KW3 := Be (fun w1 (hb : Below w3.heap.size w3 w1) => KW.out w1 (Bc hb3 hb)); have TA3 := Be (fun w1 (hb : Below w3.heap.size w3 w1) => (TA.out w1 (Bc hb3 hb)).mono (fun r w' (hh : r = _ ∧ _) => And.intro hh.1 (Bc hb hh.2))); have TB3 := Be (fun w1 (hb : Below w3.heap.size w3 w1) => (TB.out w1 (Bc hb3 hb)).mono (fun r w' (hh : r = _ ∧ _) => And.intro hh.1 (Bc hb hh.2))); clear b1 b2 hb3 PL KW TA TB; go_wp2_with fail; (go_region_held3 (fun w' => ((w'.cell? ⟨w.heap.size, 0, none⟩ = some (.bool false) ∧ w'.cell? ⟨w.heap.size, 1, none⟩ = some (.slice A n c) ∧ w'.cell? ⟨w.heap.size, 2, none⟩ = some (.int .i64 e) ∧ w'.frozen? ⟨w.heap.size, 0, none⟩ = false ∧ w'.frozen? ⟨w.heap.size, 1, none⟩ = false ∧ w'.frozen? ⟨w.heap.size, 2, none⟩ = false) ∧ (w'.cell? ⟨w.heap.size + 1, 0, none⟩ = some (.bool false) ∧ w'.cell? ⟨w.heap.size + 1, 1, none⟩ = some (.slice A' n' c') ∧ w'.cell? ⟨w.heap.size + 1, 2, none⟩ = some (.int .i64 f) ∧ w'.frozen? ⟨w.heap.size + 1, 0, none⟩ = false ∧ w'.frozen? ⟨w.heap.size + 1, 1, none⟩ = false ∧ w'.frozen? ⟨w.heap.size + 1, 2, none⟩ = false))) (first | exact KW3.out _ ((by repeat with_reducible (first | assumption | exact Bb _ | refine Bd ?_ _ | apply Below.drew | refine Ba ?_ _)))) (first | (go_at_call 118; refine (TA3.out _ ?_).mono ?_; (repeat with_reducible (first | assumption | exact Bb _ | refine Bd ?_ _ | apply Below.drew | refine Ba ?_ _)); rintro r w5 ⟨rfl, hb5⟩) | (go_at_call 118; refine (TB3.out _ ?_).mono ?_; (repeat with_reducible (first | assumption | exact Bb _ | refine Bd ?_ _ | apply Below.drew | refine Ba ?_ _)); rintro r w6 ⟨rfl, hb6⟩)))); go_wp2_with fail; (go_region_held3 (fun w' => ((w'.cell? ⟨w.heap.size, 0, none⟩ = some (.bool false) ∧ w'.cell? ⟨w.heap.size, 1, none⟩ = some (.slice A n c) ∧ w'.cell? ⟨w.heap.size, 2, none⟩ = some (.int .i64 e) ∧ w'.frozen? ⟨w.heap.size, 0, none⟩ = false ∧ w'.frozen? ⟨w.heap.size, 1, none⟩ = false ∧ w'.frozen? ⟨w.heap.size, 2, none⟩ = false) ∧ (w'.cell? ⟨w.heap.size + 1, 0, none⟩ = some (.bool false) ∧ w'.cell? ⟨w.heap.size + 1, 1, none⟩ = some (.slice A' n' c') ∧ w'.cell? ⟨w.heap.size + 1, 2, none⟩ = some (.int .i64 f) ∧ w'.frozen? ⟨w.heap.size + 1, 0, none⟩ = false ∧ w'.frozen? ⟨w.heap.size + 1, 1, none⟩ = false ∧ w'.frozen? ⟨w.heap.size + 1, 2, none⟩ = false))) (first | exact KW3.out _ ((by repeat with_reducible (first | assumption | exact Bb _ | refine Bd ?_ _ | apply Below.drew | refine Ba ?_ _)))) (first | (go_at_call 118; refine (TA3.out _ ?_).mono ?_; (repeat with_reducible (first | assumption | exact Bb _ | refine Bd ?_ _ | apply Below.drew | refine Ba ?_ _)); rintro r w5 ⟨rfl, hb5⟩) | (go_at_call 118; refine (TB3.out _ ?_).mono ?_; (repeat with_reducible (first | assumption | exact Bb _ | refine Bd ?_ _ | apply Below.drew | refine Ba ?_ _)); rintro r w6 ⟨rfl, hb6⟩))); go_wp2_with fail; go_ret2; exact ⟨by simp, hw3.trans ((by repeat with_reducible (first | assumption | exact Bb _ | refine Bd ?_ _ | apply Below.drew | refine Ba ?_ _) : Below w3.heap.size w3 _).mono hw3.size)⟩)
     ·(go_enter Tryz.func84, Tryz.ntmps84; go_wp2_with fail; refine PL.out.mono ?_; rintro r w3 ⟨rfl, hb3⟩; (obtain ⟨⟨k0', k1', k2', f0', f1', f2'⟩, ⟨j0', j1', j2', g0', g1', g2'⟩⟩ := KW.out w3 hb3; have hw3 := Bc b2 hb3; have KW3 := Be (fun w1 (hb : Below w3.heap.size w3 w1) => KW.out w1 (Bc hb3 hb)); have TA3 := Be (fun w1 (hb : Below w3.heap.size w3 w1) => (TA.out w1 (Bc hb3 hb)).mono (fun r w' (hh : r = _ ∧ _) => And.intro hh.1 (Bc hb hh.2))); have TB3 := Be (fun w1 (hb : Below w3.heap.size w3 w1) => (TB.out w1 (Bc hb3 hb)).mono (fun r w' (hh : r = _ ∧ _) => And.intro hh.1 (Bc hb hh.2))); clear b1 b2 hb3 PL KW TA TB; go_wp2_with fail; (go_region_held3 (fun w' => ((w'.cell? ⟨w.heap.size, 0, none⟩ = some (.bool true) ∧ w'.cell? ⟨w.heap.size, 1, none⟩ = some (.slice A n c) ∧ w'.cell? ⟨w.heap.size, 2, none⟩ = some (.int .i64 e) ∧ w'.frozen? ⟨w.heap.size, 0, none⟩ = false ∧ w'.frozen? ⟨w.heap.size, 1, none⟩ = false ∧ w'.frozen? ⟨w.heap.size, 2, none⟩ = false) ∧ (w'.cell? ⟨w.heap.size + 1, 0, none⟩ = some (.bool true) ∧ w'.cell? ⟨w.heap.size + 1, 1, none⟩ = some (.slice A' n' c') ∧ w'.cell? ⟨w.heap.size + 1, 2, none⟩ = some (.int .i64 f) ∧ w'.frozen? ⟨w.heap.size + 1, 0, none⟩ = false ∧ w'.frozen? ⟨w.heap.size + 1, 1, none⟩ = false ∧ w'.frozen? ⟨w.heap.size + 1, 2, none⟩ = false))) (first | exact KW3.out _ ((by repeat with_reducible (first | assumption | exact Bb _ | refine Bd ?_ _ | apply Below.drew | refine Ba ?_ _)))) (first | (go_at_call 118; refine (TA3.out _ ?_).mono ?_; (repeat with_reducible (first | assumption | exact Bb _ | refine Bd ?_ _ | apply Below.drew | refine Ba ?_ _)); rintro r w5 ⟨rfl, hb5⟩) | (go_at_call 118; refine (TB3.out _ ?_).mono ?_; (repeat with_reducible (first | assumption | exact Bb _ | refine Bd ?_ _ | apply Below.drew | refine Ba ?_ _)); rintro r w6 ⟨rfl, hb6⟩)))); go_wp2_with fail; (go_region_held3 (fun w' => ((w'.cell? ⟨w.heap.size, 0, none⟩ = some (.bool true) ∧ w'.cell? ⟨w.heap.size, 1, none⟩ = some (.slice A n c) ∧ w'.cell? ⟨w.heap.size, 2, none⟩ = some (.int .i64 e) ∧ w'.frozen? ⟨w.heap.size, 0, none⟩ = false ∧ w'.frozen? ⟨w.heap.size, 1, none⟩ = false ∧ w'.frozen? ⟨w.heap.size, 2, none⟩ = false) ∧ (w'.cell? ⟨w.heap.size + 1, 0, none⟩ = some (.bool true) ∧ w'.cell? ⟨w.heap.size + 1, 1, none⟩ = some (.slice A' n' c') ∧ w'.cell? ⟨w.heap.size + 1, 2, none⟩ = some (.int .i64 f) ∧ w'.frozen? ⟨w.heap.size + 1, 0, none⟩ = false ∧ w'.frozen? ⟨w.heap.size + 1, 1, none⟩ = false ∧ w'.frozen? ⟨w.heap.size + 1, 2, none⟩ = false))) (first | exact KW3.out _ ((by repeat with_reducible (first | assumption | exact Bb _ | refine Bd ?_ _ | apply Below.drew | refine Ba ?_ _)))) (first | (go_at_call 118; refine (TA3.out _ ?_).mono ?_; (repeat with_reducible (first | assumption | exact Bb _ | refine Bd ?_ _ | apply Below.drew | refine Ba ?_ _)); rintro r w5 ⟨rfl, hb5⟩) | (go_at_call 118; refine (TB3.out _ ?_).mono ?_; (repeat with_reducible (first | assumption | exact Bb _ | refine Bd ?_ _ | apply Below.drew | refine Ba ?_ _)); rintro r w6 ⟨rfl, hb6⟩))); go_wp2_with fail; go_ret2; exact ⟨by simp, hw3.trans ((by repeat with_reducible (first | assumption | exact Bb _ | refine Bd ?_ _ | apply Below.drew | refine Ba ?_ _) : Below w3.heap.size w3 _).mono hw3.size)⟩)
   ·clear bW
    rw [hlev]
    generalize lvX n n' (val xs) e f = lx at *
    generalize lvY n n' (val ys) e f = ly at *
    generalize hcm : Cs lx ly = cm at *
    have HCM := Be hcm
    have hz : n = 0 ∨ (0 < n ∧ n' = 0) := by omega
    have d1 : 0 < n → decide ((n : Int) > 0) = true := fun hh => by simp; omega
    clear hcm hlev v1 v2 pd1 pd2 l1 l2 hl hl' hboth k0 k1 k2 f0 f1 f2 j0 j1 j2 g0 g1 g2 h h' H H' he he' hf hf'
    cases p
    all_goals
     rcases hz with rfl | ⟨hn0, rfl⟩
    all_goals
     try have d1 := d1 hn0
     go_enter Tryz.func84, Tryz.ntmps84
     go_wp2_with fail
     refine PL.out.mono ?_; rintro r w3 ⟨rfl, hb3⟩
     obtain ⟨⟨k0', k1', k2', f0', f1', f2'⟩, ⟨j0', j1', j2', g0', g1', g2'⟩⟩ := KW.out w3 hb3
     have hw3 := Bc b2 hb3
     have LV3 := Be (fun w1 (hb : Below w3.heap.size w3 w1) => LV.out w1 (Bc hb3 hb))
     clear b1 b2 hb3 PL KW LV
     go_wp2_with fail
     go_quiet (fail)
     go_wp2_with fail
     go_quiet (fail)
     go_wp2_with fail
     refine (LV3.out _ ((by repeat with_reducible (first | assumption | exact Bb _ | refine Bd ?_ _ | apply Below.drew | refine Ba ?_ _)))).mono ?_
     rintro r w5 ⟨A1, n1, c1, X1, A2, n2, c2, X2, gg, rfl, ha1, ha2, e1, e2, hb5⟩
     have hw5 := Bc (hw3.trans ((by repeat with_reducible (first | assumption | exact Bb _ | refine Bd ?_ _ | apply Below.drew | refine Ba ?_ _) : Below w3.heap.size w3 _).mono hw3.size)) hb5
     have C := Qp A1 A2 n1 c1 n2 c2 X1 X2 w5 ha1 ha2
     rw [e1, e2, HCM.out] at C
     have C := Be C
     clear e1 e2 ha1 ha2 hb5
     go_wp2_with fail
     refine C.out.mono ?_; rintro r w6 ⟨rfl, hs6⟩
     have hw6 := hw5.trans (hs6.below _)
     go_wp2_with fail
     go_ret2
     exact ⟨by simp, hw6⟩
  ·have es := Ue pd1 pd2 hpq
   simp only at es
   rw [es]
   clear es
   cases p <;> cases q <;> first | exact absurd rfl hpq | skip
   all_goals
    go_enter Tryz.func84, Tryz.ntmps84
    go_wp2_with fail
    refine PL.out.mono ?_; rintro r w3 ⟨rfl, hb3⟩
    obtain ⟨⟨k0', k1', k2', f0', f1', f2'⟩, ⟨j0', j1', j2', g0', g1', g2'⟩⟩ := KW.out w3 hb3
    have hw3 := Bc b2 hb3
    clear k0 k1 k2 f0 f1 f2 j0 j1 j2 g0 g1 g2
    go_wp2_with fail
    go_ret2
    exact ⟨by simp, hw3⟩
end Go.Proofs.YteffemhapnbaeaaGreatDoor
