/- A text of ours, with only what the claim's row needs (wip/tools/shake.py). -/
import Derived.Laws.BitsLemmas
import Derived.Test.YteffemhapnbaeaaGreatDoorMS
import Derived.Test.YteffemhapnbaeaaGreatDoorMG
import Derived.Test.YteffemhapnbaeaaGreatDoorMH
import Derived.Test.YteffemhapnbaeaaGreatDoorMI
import Derived.Test.YteffemhapnbaeaaGreatDoorMD
import Derived.Test.YteffemhapnbaeaaGreatDoorMP
import Derived.Test.YteffemhapnbaeaaGreatDoorME
namespace Go.Proofs.YteffemhapnbaeaaGreatDoor
open Go.RowKit Num
set_option linter.unusedSimpArgs false
set_option linter.unusedVariables false
set_option maxRecDepth 100000

end Go.Proofs.YteffemhapnbaeaaGreatDoor
namespace Go.Proofs.YteffemhapnbaeaaGreatDoor
open Go.RowKit Num
set_option linter.unusedSimpArgs false
set_option linter.unusedVariables false
set_option maxRecDepth 100000

end Go.Proofs.YteffemhapnbaeaaGreatDoor
namespace Go.Proofs.YteffemhapnbaeaaGreatDoor
open Go.RowKit Num
set_option linter.unusedSimpArgs false
set_option linter.unusedVariables false
set_option maxRecDepth 100000

theorem mul_lt_pow {a b : Int} {m n : Nat} (h1 : a < B ^ m) (h2 : b < B ^ n) (ha : 0 ≤ a) (hb : 0 ≤ b) : a * b < B ^ (m + n) := by
  rw [Int.pow_add]
  have h3 : a * b ≤ a * B ^ n := Int.mul_le_mul_of_nonneg_left (Int.le_of_lt h2) ha
  have h4 : a * B ^ n < B ^ m * B ^ n := Int.mul_lt_mul_of_pos_right h1 (B_pow_pos n)
  omega
set_option maxHeartbeats 4000000 in
theorem dmul (p q : Bool) (A A' : Option Addr) (n c n' c' : Nat) (xs ys : List Int) (e f : Int) (w : World) (h : Arr w A n c xs) (h' : Arr w A' n' c' ys) (hT : Tz w) :
    Calls Tryz.prog 44 #[.agg #[.bool p, .slice A n c, .int .i64 e], .agg #[.bool q, .slice A' n' c', .int .i64 f]] w (RetD (mulD p q xs ys e f) w) := by
  have b1 : Below w.heap.size w (((w.alloc (.cells #[.bool p, .slice A n c, .int .i64 e] 26)).alloc (.cells #[.bool q, .slice A' n' c', .int .i64 f] 26)).alloc (.cells #[.bool false, .slice none 0 0, .int .i64 0] 26)) := below_alloc (below_alloc (below_alloc (below_self w) _) _) _
  have H := h.below b1
  have H' := h'.below b1
  have bx := ((box_new w #[.bool p, .slice A n c, .int .i64 e] 26).later (below_alloc (below_self _) (.cells #[.bool q, .slice A' n' c', .int .i64 f] 26))).later (below_alloc (below_self _) (.cells #[.bool false, .slice none 0 0, .int .i64 0] 26))
  have by1 := (box_new (w.alloc (.cells #[.bool p, .slice A n c, .int .i64 e] 26)) #[.bool q, .slice A' n' c', .int .i64 f] 26).later (below_alloc (below_self _) (.cells #[.bool false, .slice none 0 0, .int .i64 0] 26))
  rw [show (w.alloc (.cells #[.bool p, .slice A n c, .int .i64 e] 26)).heap.size = w.heap.size + 1 by simp] at by1
  have br := box_new ((w.alloc (.cells #[.bool p, .slice A n c, .int .i64 e] 26)).alloc (.cells #[.bool q, .slice A' n' c', .int .i64 f] 26)) #[.bool false, .slice none 0 0, .int .i64 0] 26
  rw [show ((w.alloc (.cells #[.bool p, .slice A n c, .int .i64 e] 26)).alloc (.cells #[.bool q, .slice A' n' c', .int .i64 f] 26)).heap.size = w.heap.size + 1 + 1 by simp] at br
  have KW : ∀ w3, Below (((w.alloc (.cells #[.bool p, .slice A n c, .int .i64 e] 26)).alloc (.cells #[.bool q, .slice A' n' c', .int .i64 f] 26)).alloc (.cells #[.bool false, .slice none 0 0, .int .i64 0] 26)).heap.size (((w.alloc (.cells #[.bool p, .slice A n c, .int .i64 e] 26)).alloc (.cells #[.bool q, .slice A' n' c', .int .i64 f] 26)).alloc (.cells #[.bool false, .slice none 0 0, .int .i64 0] 26)) w3 → Three w3 w.heap.size p q A A' n c n' c' e f := fun w3 hb => ⟨⟨(bx.later hb).cell3, (by1.later hb).cell3⟩, br.later hb⟩
  have KW := Lib.hid KW
  clear bx by1 br
  (obtain ⟨⟨k0, k1, k2, f0, f1, f2⟩, ⟨j0, j1, j2, g0, g1, g2⟩⟩ := (KW.out _ (below_self _)).two)
  have DVV := dvs_two p q A A' n c n' c' xs ys e f H H' 26
  rw [show (((w.alloc (.cells #[.bool p, .slice A n c, .int .i64 e] 26)).alloc (.cells #[.bool q, .slice A' n' c', .int .i64 f] 26)).alloc (.cells #[.bool false, .slice none 0 0, .int .i64 0] 26)).heap.size = w.heap.size + 1 + 1 + 1 by simp] at DVV
  have bW := below_alloc (below_self (((w.alloc (.cells #[.bool p, .slice A n c, .int .i64 e] 26)).alloc (.cells #[.bool q, .slice A' n' c', .int .i64 f] 26)).alloc (.cells #[.bool false, .slice none 0 0, .int .i64 0] 26))) (.cells #[.bool p, .slice A n c, .int .i64 e, .bool q, .slice A' n' c', .int .i64 f] 26)
  have PX := dplain _ 2 _ rfl _ DVV (by decide)
  have ea : [DV.mk p A n c xs e, DV.mk q A' n' c' ys f].all DV.plain = (plainB p xs e && plainB q ys f) := by simp [DV.plain]
  rw [ea] at PX
  clear ea DVV
  cases hpl : plainB p xs e && plainB q ys f
  · rw [hpl] at PX
    have PX := Lib.hid PX
    have er : mulD p q xs ys e f = none := by unfold mulD; rw [hpl]; rfl
    rw [er]
    clear er
    go_enter Tryz.func44, Tryz.ntmps44
    go_wp2_with fail
    refine PX.out.mono ?_; rintro r w3 ⟨rfl, hb3⟩
    have hb3 := below_on bW hb3
    have hw3 := below_on b1 hb3
    have br3 := (KW.out w3 hb3).res
    obtain ⟨z0, z1, z2, y0, y1, y2⟩ := br3.cell3
    go_wp2_with fail
    (refine bodyPost_ret (v := .tuple #[.agg #[.bool false, .slice none 0 0, .int .i64 0], .bool false]) (by simp [results, Tryz.results44, go_sem, z0, z1, z2]) rfl ?_; exact retD_set (o := none) (arr_no _) br3 hw3 (by omega))
  rw [hpl] at PX
  have PX := Lib.hid PX
  rw [Bool.and_eq_true] at hpl
  have hp := hpl.1
  have hq := hpl.2
  clear hpl
  obtain ⟨pd1, l1, -, -⟩ := plainB_parts h.wf hp
  obtain ⟨pd2, l2, -, -⟩ := plainB_parts h'.wf hq
  have hl := h.len
  have hl' := h'.len
  have he := pd1.lo
  have he' := pd1.hi
  have hf := pd2.lo
  have hf' := pd2.hi
  simp only at he he' hf hf'
  have er : mulD p q xs ys e f = mkD (p != q) (val xs * val ys) (e + f) := by unfold mulD; rw [hp, hq]; rfl
  rw [er]
  clear er
  have nx := h.val_nonneg
  have ny := h'.val_nonneg
  have nm := Int.mul_nonneg nx ny
  have vm := val_wd _ nm
  have lm : (wd (val xs * val ys)).length ≤ 512 := by
    refine wd_length_le nm ?_
    have a1 : val xs < B ^ 256 := Int.lt_of_lt_of_le (val_lt h.wf) (B_pow_le l1)
    have a2 : val ys < B ^ 256 := Int.lt_of_lt_of_le (val_lt h'.wf) (B_pow_le l2)
    have a3 := mul_lt_pow a1 a2 nx ny
    exact a3
  have MM : ∀ (w1 : World) (hb : Below (((w.alloc (.cells #[.bool p, .slice A n c, .int .i64 e] 26)).alloc (.cells #[.bool q, .slice A' n' c', .int .i64 f] 26)).alloc (.cells #[.bool false, .slice none 0 0, .int .i64 0] 26)).heap.size (((w.alloc (.cells #[.bool p, .slice A n c, .int .i64 e] 26)).alloc (.cells #[.bool q, .slice A' n' c', .int .i64 f] 26)).alloc (.cells #[.bool false, .slice none 0 0, .int .i64 0] 26)) w1), Calls Tryz.prog 83 #[.slice A n c, .slice A' n' c'] w1 fun r w5 => ∃ A5 n5 c5, r = .returned (.slice A5 n5 c5) ∧ Arr w5 A5 n5 c5 (wd (val xs * val ys)) ∧ Below (((w.alloc (.cells #[.bool p, .slice A n c, .int .i64 e] 26)).alloc (.cells #[.bool q, .slice A' n' c', .int .i64 f] 26)).alloc (.cells #[.bool false, .slice none 0 0, .int .i64 0] 26)).heap.size (((w.alloc (.cells #[.bool p, .slice A n c, .int .i64 e] 26)).alloc (.cells #[.bool q, .slice A' n' c', .int .i64 f] 26)).alloc (.cells #[.bool false, .slice none 0 0, .int .i64 0] 26)) w5 := by
    intro w1 hb
    refine (mul A A' n c n' c' xs ys w1 (H.below hb) (H'.below hb) (by omega) (by omega)).mono ?_
    rintro r w5 ⟨A5, n5, c5, rfl, ha, hb5⟩
    exact ⟨A5, n5, c5, rfl, ha.arr, below_on hb hb5⟩
  have MK : ∀ (A5 : Option Addr) (n5 c5 : Nat) (w1 : World) (ha : Arr w1 A5 n5 c5 (wd (val xs * val ys))) (hb : Below (((w.alloc (.cells #[.bool p, .slice A n c, .int .i64 e] 26)).alloc (.cells #[.bool q, .slice A' n' c', .int .i64 f] 26)).alloc (.cells #[.bool false, .slice none 0 0, .int .i64 0] 26)).heap.size (((w.alloc (.cells #[.bool p, .slice A n c, .int .i64 e] 26)).alloc (.cells #[.bool q, .slice A' n' c', .int .i64 f] 26)).alloc (.cells #[.bool false, .slice none 0 0, .int .i64 0] 26)) w1), Calls Tryz.prog 66 #[.bool (p != q), .slice A5 n5 c5, .int .i64 (e + f)] w1 fun r w6 => ∃ A6 n6 c6, r = .returned (.tuple #[.agg #[.bool (optD (mkD (p != q) (val xs * val ys) (e + f))).neg, .slice A6 n6 c6, .int .i64 (optD (mkD (p != q) (val xs * val ys) (e + f))).e], .bool (mkD (p != q) (val xs * val ys) (e + f)).isSome]) ∧ Arr w6 A6 n6 c6 (wd (optD (mkD (p != q) (val xs * val ys) (e + f))).m) ∧ Below (((w.alloc (.cells #[.bool p, .slice A n c, .int .i64 e] 26)).alloc (.cells #[.bool q, .slice A' n' c', .int .i64 f] 26)).alloc (.cells #[.bool false, .slice none 0 0, .int .i64 0] 26)).heap.size (((w.alloc (.cells #[.bool p, .slice A n c, .int .i64 e] 26)).alloc (.cells #[.bool q, .slice A' n' c', .int .i64 f] 26)).alloc (.cells #[.bool false, .slice none 0 0, .int .i64 0] 26)) w6 := by
    intro A5 n5 c5 w1 ha hb
    have l5 := ha.len
    have M := make (p != q) A5 n5 c5 _ (e + f) w1 ha (by omega) (by omega) (by omega) (hT.below (below_on b1 hb))
    rw [vm] at M
    refine M.mono ?_
    rintro r w6 ⟨A6, n6, c6, rfl, h6, hb6⟩
    exact ⟨A6, n6, c6, rfl, h6, below_on hb hb6⟩
  have MM := Lib.hid MM
  have W1 : IntKind.i64.wrap (e + f) = e + f := by rw [IntKind.wrap_i64]; omega
  have KS := Lib.hid (fun w1 hb => (KW.out w1 hb).two)
  generalize mkD (p != q) (val xs * val ys) (e + f) = o at *
  have MK := Lib.hid MK
  have hne1 : ¬ w.heap.size + 1 + 1 = w.heap.size := by omega
  clear nm vm lm nx ny pd1 pd2 hp hq h h' H H'
  go_enter Tryz.func44, Tryz.ntmps44
  go_wp2_with fail
  refine PX.out.mono ?_; rintro r w4 ⟨rfl, hb4⟩
  have hb4 := below_on bW hb4
  (clear k0 k1 k2 f0 f1 f2 j0 j1 j2 g0 g1 g2)
  (obtain ⟨⟨k0, k1, k2, f0, f1, f2⟩, ⟨j0, j1, j2, g0, g1, g2⟩⟩ := (KW.out _ hb4).two)
  go_wp2_with fail
  go_region_held3 (fun w' => ((w'.cell? ⟨w.heap.size, 0, none⟩ = some (.bool p) ∧ w'.cell? ⟨w.heap.size, 1, none⟩ = some (.slice A n c) ∧ w'.cell? ⟨w.heap.size, 2, none⟩ = some (.int .i64 e) ∧ w'.frozen? ⟨w.heap.size, 0, none⟩ = false ∧ w'.frozen? ⟨w.heap.size, 1, none⟩ = false ∧ w'.frozen? ⟨w.heap.size, 2, none⟩ = false) ∧ (w'.cell? ⟨w.heap.size + 1, 0, none⟩ = some (.bool q) ∧ w'.cell? ⟨w.heap.size + 1, 1, none⟩ = some (.slice A' n' c') ∧ w'.cell? ⟨w.heap.size + 1, 2, none⟩ = some (.int .i64 f) ∧ w'.frozen? ⟨w.heap.size + 1, 0, none⟩ = false ∧ w'.frozen? ⟨w.heap.size + 1, 1, none⟩ = false ∧ w'.frozen? ⟨w.heap.size + 1, 2, none⟩ = false))) (first | (refine KS.out _ ?_; (repeat (first | with_reducible assumption | with_reducible exact below_self _ | with_reducible refine below_drewN ?_ _ | with_reducible apply Below.drew | with_reducible refine below_alloc ?_ _)); done) | go_keep) (first | (go_at_call 83; refine (MM.out _ ?_).mono ?_; (repeat (first | with_reducible assumption | with_reducible exact below_self _ | with_reducible refine below_drewN ?_ _ | with_reducible apply Below.drew | with_reducible refine below_alloc ?_ _)); rintro r w5 ⟨A5, n5, c5, rfl, h5, hb5⟩) | (go_at_call 66; refine (MK.out _ _ _ _ h5 ?_).mono ?_; (repeat (first | with_reducible assumption | with_reducible exact below_self _ | with_reducible refine below_drewN ?_ _ | with_reducible apply Below.drew | with_reducible refine below_alloc ?_ _)); rintro r w6 ⟨A6, n6, c6, rfl, h6, hb6⟩; have br6 := (KW.out w6 hb6).res; obtain ⟨u0, u1, u2, u3, u4, u5⟩ := br6.cell3))
  all_goals
    go_wp2_with fail
    refine bodyPost_ret (v := _) ?_ rfl (retD_set h6 br6 (below_on b1 hb6) (by omega))
    simp [results, Tryz.results44, go_sem, u0, u1, u2]
    try exact ⟨rfl, rfl⟩
set_option maxHeartbeats 4000000 in
theorem rmul02 (p q : Bool) (A A' : Option Addr) (n c n' c' : Nat) (xs ys : List Int) (e f : Int) (w : World) (h : Arr w A n c xs) (h' : Arr w A' n' c' ys) (hn : n ≤ 100000) (hn' : n' ≤ 100000) :
    Calls Tryz.prog 49 #[.agg #[.bool p, .slice A n c, .int .i64 e], .agg #[.bool q, .slice A' n' c', .int .i64 f]] w (RetD (mulD p q xs ys e f) w) := by
  have b1 : Below w.heap.size w (((w.alloc (.cells #[.bool p, .slice A n c, .int .i64 e] 26)).alloc (.cells #[.bool q, .slice A' n' c', .int .i64 f] 26)).alloc (.cells #[.bool false, .slice none 0 0, .int .i64 0] 26)) := below_alloc (below_alloc (below_alloc (below_self w) _) _) _
  have H := h.below b1
  have H' := h'.below b1
  have bx := ((box_new w #[.bool p, .slice A n c, .int .i64 e] 26).later (below_alloc (below_self _) (.cells #[.bool q, .slice A' n' c', .int .i64 f] 26))).later (below_alloc (below_self _) (.cells #[.bool false, .slice none 0 0, .int .i64 0] 26))
  have by1 := (box_new (w.alloc (.cells #[.bool p, .slice A n c, .int .i64 e] 26)) #[.bool q, .slice A' n' c', .int .i64 f] 26).later (below_alloc (below_self _) (.cells #[.bool false, .slice none 0 0, .int .i64 0] 26))
  rw [show (w.alloc (.cells #[.bool p, .slice A n c, .int .i64 e] 26)).heap.size = w.heap.size + 1 by simp] at by1
  have br := box_new ((w.alloc (.cells #[.bool p, .slice A n c, .int .i64 e] 26)).alloc (.cells #[.bool q, .slice A' n' c', .int .i64 f] 26)) #[.bool false, .slice none 0 0, .int .i64 0] 26
  rw [show ((w.alloc (.cells #[.bool p, .slice A n c, .int .i64 e] 26)).alloc (.cells #[.bool q, .slice A' n' c', .int .i64 f] 26)).heap.size = w.heap.size + 1 + 1 by simp] at br
  have KW : ∀ w3, Below (((w.alloc (.cells #[.bool p, .slice A n c, .int .i64 e] 26)).alloc (.cells #[.bool q, .slice A' n' c', .int .i64 f] 26)).alloc (.cells #[.bool false, .slice none 0 0, .int .i64 0] 26)).heap.size (((w.alloc (.cells #[.bool p, .slice A n c, .int .i64 e] 26)).alloc (.cells #[.bool q, .slice A' n' c', .int .i64 f] 26)).alloc (.cells #[.bool false, .slice none 0 0, .int .i64 0] 26)) w3 → Three w3 w.heap.size p q A A' n c n' c' e f := fun w3 hb => ⟨⟨(bx.later hb).cell3, (by1.later hb).cell3⟩, br.later hb⟩
  have KW := Lib.hid KW
  clear bx by1 br
  (obtain ⟨⟨k0, k1, k2, f0, f1, f2⟩, ⟨j0, j1, j2, g0, g1, g2⟩⟩ := (KW.out _ (below_self _)).two)
  have PX := rplain p A n c xs e _ H (by omega)
  have PY := fun w3 (hb : Below (((w.alloc (.cells #[.bool p, .slice A n c, .int .i64 e] 26)).alloc (.cells #[.bool q, .slice A' n' c', .int .i64 f] 26)).alloc (.cells #[.bool false, .slice none 0 0, .int .i64 0] 26)).heap.size (((w.alloc (.cells #[.bool p, .slice A n c, .int .i64 e] 26)).alloc (.cells #[.bool q, .slice A' n' c', .int .i64 f] 26)).alloc (.cells #[.bool false, .slice none 0 0, .int .i64 0] 26)) w3) => rplain q A' n' c' ys f w3 (H'.below hb) (by omega)
  cases hp : plainB p xs e
  · rw [hp] at PX
    have PX := Lib.hid PX
    have er : mulD p q xs ys e f = none := by unfold mulD; rw [hp]; rfl
    rw [er]
    clear er
    go_enter Tryz.func49, Tryz.ntmps49
    go_wp2_with fail
    refine PX.out.mono ?_; rintro r w3 ⟨rfl, hb3⟩
    have hw3 := below_on b1 hb3
    have br3 := (KW.out w3 hb3).res
    obtain ⟨z0, z1, z2, y0, y1, y2⟩ := br3.cell3
    go_wp2_with fail
    (refine bodyPost_ret (v := .tuple #[.agg #[.bool false, .slice none 0 0, .int .i64 0], .bool false]) (by simp [results, Tryz.results49, go_sem, z0, z1, z2]) rfl ?_; exact retD_set (o := none) (arr_no _) br3 hw3 (by omega))
  rw [hp] at PX
  have PX := Lib.hid PX
  cases hq : plainB q ys f
  · rw [hq] at PY
    have PY := Lib.hid PY
    have er : mulD p q xs ys e f = none := by unfold mulD; rw [hp, hq]; rfl
    rw [er]
    clear er
    go_enter Tryz.func49, Tryz.ntmps49
    go_wp2_with fail
    refine PX.out.mono ?_; rintro r w3 ⟨rfl, hb3⟩
    (clear k0 k1 k2 f0 f1 f2 j0 j1 j2 g0 g1 g2)
    (obtain ⟨⟨k0, k1, k2, f0, f1, f2⟩, ⟨j0, j1, j2, g0, g1, g2⟩⟩ := (KW.out _ hb3).two)
    go_wp2_with fail
    refine (PY.out _ hb3).mono ?_; rintro r w4 ⟨rfl, hb4⟩
    have hb4 := below_on hb3 hb4
    have hw3 := below_on b1 hb4
    have br3 := (KW.out w4 hb4).res
    obtain ⟨z0, z1, z2, y0, y1, y2⟩ := br3.cell3
    go_wp2_with fail
    (refine bodyPost_ret (v := .tuple #[.agg #[.bool false, .slice none 0 0, .int .i64 0], .bool false]) (by simp [results, Tryz.results49, go_sem, z0, z1, z2]) rfl ?_; exact retD_set (o := none) (arr_no _) br3 hw3 (by omega))
  rw [hq] at PY
  have PY := Lib.hid PY
  obtain ⟨pd1, l1, -, -⟩ := plainB_parts h.wf hp
  obtain ⟨pd2, l2, -, -⟩ := plainB_parts h'.wf hq
  have hl := h.len
  have hl' := h'.len
  have he := pd1.lo
  have he' := pd1.hi
  have hf := pd2.lo
  have hf' := pd2.hi
  simp only at he he' hf hf'
  have er : mulD p q xs ys e f = mkD (p != q) (val xs * val ys) (e + f) := by unfold mulD; rw [hp, hq]; rfl
  rw [er]
  clear er
  have nx := h.val_nonneg
  have ny := h'.val_nonneg
  have nm := Int.mul_nonneg nx ny
  have vm := val_wd _ nm
  have lm : (wd (val xs * val ys)).length ≤ 512 := by
    refine wd_length_le nm ?_
    have a1 : val xs < B ^ 256 := Int.lt_of_lt_of_le (val_lt h.wf) (B_pow_le l1)
    have a2 : val ys < B ^ 256 := Int.lt_of_lt_of_le (val_lt h'.wf) (B_pow_le l2)
    have a3 := mul_lt_pow a1 a2 nx ny
    exact a3
  have MM : ∀ (w1 : World) (hb : Below (((w.alloc (.cells #[.bool p, .slice A n c, .int .i64 e] 26)).alloc (.cells #[.bool q, .slice A' n' c', .int .i64 f] 26)).alloc (.cells #[.bool false, .slice none 0 0, .int .i64 0] 26)).heap.size (((w.alloc (.cells #[.bool p, .slice A n c, .int .i64 e] 26)).alloc (.cells #[.bool q, .slice A' n' c', .int .i64 f] 26)).alloc (.cells #[.bool false, .slice none 0 0, .int .i64 0] 26)) w1), Calls Tryz.prog 86 #[.slice A n c, .slice A' n' c'] w1 fun r w5 => ∃ A5 n5 c5, r = .returned (.slice A5 n5 c5) ∧ Arr w5 A5 n5 c5 (wd (val xs * val ys)) ∧ Below (((w.alloc (.cells #[.bool p, .slice A n c, .int .i64 e] 26)).alloc (.cells #[.bool q, .slice A' n' c', .int .i64 f] 26)).alloc (.cells #[.bool false, .slice none 0 0, .int .i64 0] 26)).heap.size (((w.alloc (.cells #[.bool p, .slice A n c, .int .i64 e] 26)).alloc (.cells #[.bool q, .slice A' n' c', .int .i64 f] 26)).alloc (.cells #[.bool false, .slice none 0 0, .int .i64 0] 26)) w5 := by
    intro w1 hb
    refine (rmul A A' n c n' c' xs ys w1 (H.below hb) (H'.below hb) (by omega) (by omega)).mono ?_
    rintro r w5 ⟨A5, n5, c5, rfl, ha, hb5⟩
    exact ⟨A5, n5, c5, rfl, ha.arr, below_on hb hb5⟩
  have MK : ∀ (A5 : Option Addr) (n5 c5 : Nat) (w1 : World) (ha : Arr w1 A5 n5 c5 (wd (val xs * val ys))) (hb : Below (((w.alloc (.cells #[.bool p, .slice A n c, .int .i64 e] 26)).alloc (.cells #[.bool q, .slice A' n' c', .int .i64 f] 26)).alloc (.cells #[.bool false, .slice none 0 0, .int .i64 0] 26)).heap.size (((w.alloc (.cells #[.bool p, .slice A n c, .int .i64 e] 26)).alloc (.cells #[.bool q, .slice A' n' c', .int .i64 f] 26)).alloc (.cells #[.bool false, .slice none 0 0, .int .i64 0] 26)) w1), Calls Tryz.prog 70 #[.bool (p != q), .slice A5 n5 c5, .int .i64 (e + f)] w1 fun r w6 => ∃ A6 n6 c6, r = .returned (.tuple #[.agg #[.bool (optD (mkD (p != q) (val xs * val ys) (e + f))).neg, .slice A6 n6 c6, .int .i64 (optD (mkD (p != q) (val xs * val ys) (e + f))).e], .bool (mkD (p != q) (val xs * val ys) (e + f)).isSome]) ∧ Arr w6 A6 n6 c6 (wd (optD (mkD (p != q) (val xs * val ys) (e + f))).m) ∧ Below (((w.alloc (.cells #[.bool p, .slice A n c, .int .i64 e] 26)).alloc (.cells #[.bool q, .slice A' n' c', .int .i64 f] 26)).alloc (.cells #[.bool false, .slice none 0 0, .int .i64 0] 26)).heap.size (((w.alloc (.cells #[.bool p, .slice A n c, .int .i64 e] 26)).alloc (.cells #[.bool q, .slice A' n' c', .int .i64 f] 26)).alloc (.cells #[.bool false, .slice none 0 0, .int .i64 0] 26)) w6 := by
    intro A5 n5 c5 w1 ha hb
    have l5 := ha.len
    have M := rmake (p != q) A5 n5 c5 _ (e + f) w1 ha (by omega) (by omega) (by omega)
    rw [vm] at M
    refine M.mono ?_
    rintro r w6 ⟨A6, n6, c6, rfl, h6, hb6⟩
    exact ⟨A6, n6, c6, rfl, h6, below_on hb hb6⟩
  have MM := Lib.hid MM
  have W1 : IntKind.i64.wrap (e + f) = e + f := by rw [IntKind.wrap_i64]; omega
  have KS := Lib.hid (fun w1 hb => (KW.out w1 hb).two)
  generalize mkD (p != q) (val xs * val ys) (e + f) = o at *
  have MK := Lib.hid MK
  have hne1 : ¬ w.heap.size + 1 + 1 = w.heap.size := by omega
  clear nm vm lm nx ny pd1 pd2 hp hq h h' H H'
  go_enter Tryz.func49, Tryz.ntmps49
  go_wp2_with fail
  refine PX.out.mono ?_; rintro r w3 ⟨rfl, hb3⟩
  (clear k0 k1 k2 f0 f1 f2 j0 j1 j2 g0 g1 g2)
  (obtain ⟨⟨k0, k1, k2, f0, f1, f2⟩, ⟨j0, j1, j2, g0, g1, g2⟩⟩ := (KW.out _ hb3).two)
  go_wp2_with fail
  refine (PY.out _ hb3).mono ?_; rintro r w4 ⟨rfl, hb4⟩
  have hb4 := below_on hb3 hb4
  (clear k0 k1 k2 f0 f1 f2 j0 j1 j2 g0 g1 g2)
  (obtain ⟨⟨k0, k1, k2, f0, f1, f2⟩, ⟨j0, j1, j2, g0, g1, g2⟩⟩ := (KW.out _ hb4).two)
  go_wp2_with fail
  go_region_held3 (fun w' => ((w'.cell? ⟨w.heap.size, 0, none⟩ = some (.bool p) ∧ w'.cell? ⟨w.heap.size, 1, none⟩ = some (.slice A n c) ∧ w'.cell? ⟨w.heap.size, 2, none⟩ = some (.int .i64 e) ∧ w'.frozen? ⟨w.heap.size, 0, none⟩ = false ∧ w'.frozen? ⟨w.heap.size, 1, none⟩ = false ∧ w'.frozen? ⟨w.heap.size, 2, none⟩ = false) ∧ (w'.cell? ⟨w.heap.size + 1, 0, none⟩ = some (.bool q) ∧ w'.cell? ⟨w.heap.size + 1, 1, none⟩ = some (.slice A' n' c') ∧ w'.cell? ⟨w.heap.size + 1, 2, none⟩ = some (.int .i64 f) ∧ w'.frozen? ⟨w.heap.size + 1, 0, none⟩ = false ∧ w'.frozen? ⟨w.heap.size + 1, 1, none⟩ = false ∧ w'.frozen? ⟨w.heap.size + 1, 2, none⟩ = false))) (first | (refine KS.out _ ?_; (repeat (first | with_reducible assumption | with_reducible exact below_self _ | with_reducible refine below_drewN ?_ _ | with_reducible apply Below.drew | with_reducible refine below_alloc ?_ _)); done) | go_keep) (first | (go_at_call 86; refine (MM.out _ ?_).mono ?_; (repeat (first | with_reducible assumption | with_reducible exact below_self _ | with_reducible refine below_drewN ?_ _ | with_reducible apply Below.drew | with_reducible refine below_alloc ?_ _)); rintro r w5 ⟨A5, n5, c5, rfl, h5, hb5⟩) | (go_at_call 70; refine (MK.out _ _ _ _ h5 ?_).mono ?_; (repeat (first | with_reducible assumption | with_reducible exact below_self _ | with_reducible refine below_drewN ?_ _ | with_reducible apply Below.drew | with_reducible refine below_alloc ?_ _)); rintro r w6 ⟨A6, n6, c6, rfl, h6, hb6⟩; have br6 := (KW.out w6 hb6).res; obtain ⟨u0, u1, u2, u3, u4, u5⟩ := br6.cell3))
  all_goals
    go_wp2_with fail
    refine bodyPost_ret (v := _) ?_ rfl (retD_set h6 br6 (below_on b1 hb6) (by omega))
    simp [results, Tryz.results49, go_sem, u0, u1, u2]
    try exact ⟨rfl, rfl⟩
end Go.Proofs.YteffemhapnbaeaaGreatDoor
