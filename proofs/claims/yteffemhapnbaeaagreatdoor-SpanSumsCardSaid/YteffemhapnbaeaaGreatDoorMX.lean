/- A text of ours, with only what the claim's row needs (wip/tools/shake.py). -/
import Derived.Deep.RegionHeld3
import Derived.Test.YteffemhapnbaeaaGreatDoorNI
import Derived.Test.YteffemhapnbaeaaGreatDoorMS
import Derived.Test.YteffemhapnbaeaaGreatDoorMM
namespace Go.Proofs.YteffemhapnbaeaaGreatDoor
open Go.RowKit Num
variable {tw : TypeId}
set_option linter.unusedSimpArgs false
set_option linter.unusedVariables false
set_option maxRecDepth 100000

set_option maxHeartbeats 16000000 in
theorem spout0 (p q : Bool) (A A' : Option Addr) (n c n' c' : Nat) (xs ys : List Int) (e f P : Int) (g : Nat) (w : World) (h : Arr w A n c xs) (h' : Arr w A' n' c' ys) (hT : Tz w) (hk : Wk w g P false tw) :
    Calls Tryz.prog 45 #[.pointer (some ⟨g, 0, none⟩), .agg #[.bool p, .slice A n c, .int .i64 e], .agg #[.bool q, .slice A' n' c', .int .i64 f]] w (RetSp (twoO false (cutO p xs e P false) (cutO q ys f P true)) g P tw w) := by
  have hg := hk.lt
  have b1 := below_alloc (below_self w) (.cells #[.bool p, .slice A n c, .int .i64 e] 26)
  have b2 := below_alloc b1 (.cells #[.bool q, .slice A' n' c', .int .i64 f] 26)
  have b3 : Below w.heap.size w (((w.alloc (.cells #[.bool p, .slice A n c, .int .i64 e] 26)).alloc (.cells #[.bool q, .slice A' n' c', .int .i64 f] 26)).alloc (.cells #[.bool false, .slice none 0 0, .int .i64 0, .bool false, .slice none 0 0, .int .i64 0] 28)) := below_alloc b2 _
  have xa7 := (box_new w #[.bool p, .slice A n c, .int .i64 e] 26).later (below_alloc (below_alloc (below_self _) (.cells #[.bool q, .slice A' n' c', .int .i64 f] 26)) (.cells #[.bool false, .slice none 0 0, .int .i64 0, .bool false, .slice none 0 0, .int .i64 0] 28))
  have xb7 := (box_new (w.alloc (.cells #[.bool p, .slice A n c, .int .i64 e] 26)) #[.bool q, .slice A' n' c', .int .i64 f] 26).later (below_alloc (below_self _) (.cells #[.bool false, .slice none 0 0, .int .i64 0, .bool false, .slice none 0 0, .int .i64 0] 28))
  rw [show (w.alloc (.cells #[.bool p, .slice A n c, .int .i64 e] 26)).heap.size = w.heap.size + 1 by simp] at xb7
  have xr7 := box_new ((w.alloc (.cells #[.bool p, .slice A n c, .int .i64 e] 26)).alloc (.cells #[.bool q, .slice A' n' c', .int .i64 f] 26)) #[.bool false, .slice none 0 0, .int .i64 0, .bool false, .slice none 0 0, .int .i64 0] 28
  rw [show ((w.alloc (.cells #[.bool p, .slice A n c, .int .i64 e] 26)).alloc (.cells #[.bool q, .slice A' n' c', .int .i64 f] 26)).heap.size = w.heap.size + 1 + 1 by simp] at xr7
  have hk7 := hk.later b3
  have gw7 := grown_of b3 (some g)
  have hA7 := h.below b3
  have hA7' := h'.below b3
  have hT7 := hT.below b3
  generalize hW : (((w.alloc (.cells #[.bool p, .slice A n c, .int .i64 e] 26)).alloc (.cells #[.bool q, .slice A' n' c', .int .i64 f] 26)).alloc (.cells #[.bool false, .slice none 0 0, .int .i64 0, .bool false, .slice none 0 0, .int .i64 0] 28)) = w7 at *
  have HW := Lib.hid hW
  clear hW
  have z1 := optD_none (o := cutO p xs e P false)
  have z2 := optD_none (o := cutO q ys f P true)
  have ho : twoO false (cutO p xs e P false) (cutO q ys f P true) = pairO (!((cutO p xs e P false).isSome && (cutO q ys f P true).isSome)) (optD (cutO p xs e P false)) (optD (cutO q ys f P true)) := rfl
  rw [ho]
  have D1 := fun w' (h2 : Arr w' A n c xs) (hT2 : Tz w') => dCut p A n c xs e P false w' h2 hT2
  have D2 := fun w' (h2 : Arr w' A' n' c' ys) (hT2 : Tz w') => dCut q A' n' c' ys f P true w' h2 hT2
  unfold RetD at D1 D2
  clear ho
  generalize (cutO p xs e P false).isSome = k1 at *
  generalize (cutO q ys f P true).isSome = k2 at *
  generalize optD (cutO p xs e P false) = E1 at *
  generalize optD (cutO q ys f P true) = E2 at *
  obtain ⟨s1, m1, f1⟩ := E1
  obtain ⟨s2, m2, f2⟩ := E2
  simp only at z1 z2 D1 D2
  have D1 := Lib.hid D1
  have D2 := Lib.hid D2
  have z1 := Lib.hid z1
  have z2 := Lib.hid z2
  have R1 : ∀ w', w7.grownBy w' (some g) → Calls Tryz.prog 76 #[.agg #[.bool p, .slice A n c, .int .i64 e], .int .i64 P, .bool false] w' fun r w'' => ∃ A5 n5 c5, r = .returned (.tuple #[.agg #[.bool s1, .slice A5 n5 c5, .int .i64 f1], .bool k1]) ∧ Arr w'' A5 n5 c5 (wd m1) ∧ Below w'.heap.size w' w'' ∧ w7.grownBy w'' (some g) := by
    intro w' hG
    refine (D1.out w' (hk7.arr hA7 hG) (hk7.tz hT7 hG)).mono ?_
    rintro r w'' ⟨A5, n5, c5, rfl, h5, hb⟩
    exact ⟨A5, n5, c5, rfl, h5, hb, grown_on hG hb⟩
  have R2 : ∀ w', w7.grownBy w' (some g) → Calls Tryz.prog 76 #[.agg #[.bool q, .slice A' n' c', .int .i64 f], .int .i64 P, .bool true] w' fun r w'' => ∃ A5 n5 c5, r = .returned (.tuple #[.agg #[.bool s2, .slice A5 n5 c5, .int .i64 f2], .bool k2]) ∧ Arr w'' A5 n5 c5 (wd m2) ∧ Below w'.heap.size w' w'' ∧ w7.grownBy w'' (some g) := by
    intro w' hG
    refine (D2.out w' (hk7.arr hA7' hG) (hk7.tz hT7 hG)).mono ?_
    rintro r w'' ⟨A5, n5, c5, rfl, h5, hb⟩
    exact ⟨A5, n5, c5, rfl, h5, hb, grown_on hG hb⟩
  have M1 : ∀ A5 n5 c5 w' b, Wk w' g P b tw → Arr w' A5 n5 c5 (wd m1) → w7.grownBy w' (some g) → Calls Tryz.prog 43 #[.pointer (some ⟨g, 0, none⟩), .agg #[.bool s1, .slice A5 n5 c5, .int .i64 f1], .bool k1] w' fun r w'' => ∃ B k j, r = .returned (.agg #[.bool s1, .slice B k j, .int .i64 f1]) ∧ Arr w'' B k j (wd m1) ∧ Wk w'' g P (b || !k1) tw ∧ w'.grownBy w'' (some g) ∧ w7.grownBy w'' (some g) := by
    intro A5 n5 c5 w' b hk' ha hG
    refine (must_o g P b k1 s1 m1 f1 A5 n5 c5 w' hk' ha z1.out).mono ?_
    rintro r w'' ⟨B, k, j, rfl, hB, hk2, hg2⟩
    exact ⟨B, k, j, rfl, hB, hk2, hg2, grown_trans hG hg2⟩
  have M2 : ∀ A5 n5 c5 w' b, Wk w' g P b tw → Arr w' A5 n5 c5 (wd m2) → w7.grownBy w' (some g) → Calls Tryz.prog 43 #[.pointer (some ⟨g, 0, none⟩), .agg #[.bool s2, .slice A5 n5 c5, .int .i64 f2], .bool k2] w' fun r w'' => ∃ B k j, r = .returned (.agg #[.bool s2, .slice B k j, .int .i64 f2]) ∧ Arr w'' B k j (wd m2) ∧ Wk w'' g P (b || !k2) tw ∧ w'.grownBy w'' (some g) ∧ w7.grownBy w'' (some g) := by
    intro A5 n5 c5 w' b hk' ha hG
    refine (must_o g P b k2 s2 m2 f2 A5 n5 c5 w' hk' ha z2.out).mono ?_
    rintro r w'' ⟨B, k, j, rfl, hB, hk2, hg2⟩
    exact ⟨B, k, j, rfl, hB, hk2, hg2, grown_trans hG hg2⟩
  have GV : ∀ B1 x1 y1 B2 x2 y2 w' b, Wk w' g P b tw → Arr w' B1 x1 y1 (wd m1) → Arr w' B2 x2 y2 (wd m2) → w7.grownBy w' (some g) → Calls Tryz.prog 34 #[.pointer (some ⟨g, 0, none⟩), .agg #[.bool s1, .slice B1 x1 y1, .int .i64 f1], .agg #[.bool s2, .slice B2 x2 y2, .int .i64 f2]] w' fun r w'' => ∃ X u v Y k j, r = .returned (.agg #[.bool ((pairO b ⟨s1, m1, f1⟩ ⟨s2, m2, f2⟩).getD (Dy.zero, Dy.zero)).1.neg, .slice X u v, .int .i64 ((pairO b ⟨s1, m1, f1⟩ ⟨s2, m2, f2⟩).getD (Dy.zero, Dy.zero)).1.e, .bool ((pairO b ⟨s1, m1, f1⟩ ⟨s2, m2, f2⟩).getD (Dy.zero, Dy.zero)).2.neg, .slice Y k j, .int .i64 ((pairO b ⟨s1, m1, f1⟩ ⟨s2, m2, f2⟩).getD (Dy.zero, Dy.zero)).2.e]) ∧
    Arr w'' X u v (wd ((pairO b ⟨s1, m1, f1⟩ ⟨s2, m2, f2⟩).getD (Dy.zero, Dy.zero)).1.m) ∧ Arr w'' Y k j (wd ((pairO b ⟨s1, m1, f1⟩ ⟨s2, m2, f2⟩).getD (Dy.zero, Dy.zero)).2.m) ∧ Below w'.heap.size w' w'' ∧ w7.grownBy w'' (some g) := by
    intro B1 x1 y1 B2 x2 y2 w' b hk' ha hb hG
    refine (give_o g P b s1 s2 m1 f1 m2 f2 B1 B2 x1 y1 x2 y2 w' hk' ha hb).mono ?_
    rintro r w'' ⟨X, u, v, Y, k, j, rfl, hX, hY, hb2⟩
    exact ⟨X, u, v, Y, k, j, rfl, hX, hY, hb2, grown_on hG hb2⟩
  have KC : ∀ w', w7.grownBy w' (some g) → (∃ b, Wk w' g P b tw) → ((w'.cell? ⟨w.heap.size, 0, none⟩ = some (.bool p) ∧ w'.cell? ⟨w.heap.size, 1, none⟩ = some (.slice A n c) ∧ w'.cell? ⟨w.heap.size, 2, none⟩ = some (.int .i64 e) ∧ w'.cell? ⟨w.heap.size + 1, 0, none⟩ = some (.bool q) ∧ w'.cell? ⟨w.heap.size + 1, 1, none⟩ = some (.slice A' n' c') ∧ w'.cell? ⟨w.heap.size + 1, 2, none⟩ = some (.int .i64 f)) ∧ w'.cell? ⟨g, 0, none⟩ = some (.int .i64 P)) := by
    intro w' hG hb
    obtain ⟨b, hb⟩ := hb
    obtain ⟨z0, z1, z2, -, -, -⟩ := (xa7.grown hG (show w.heap.size ≠ g by omega)).cell3
    obtain ⟨z3, z4, z5, -, -, -⟩ := (xb7.grown hG (show w.heap.size + 1 ≠ g by omega)).cell3
    exact ⟨⟨z0, z1, z2, z3, z4, z5⟩, hb.cells.1⟩
  have KC2 : ∀ w' b, w7.grownBy w' (some g) → Wk w' g P b tw → ∀ p1 B n1 c1 e1 q1 B' n2 c2 f1 W2, W2 = set6 w' (w.heap.size + 1 + 1) p1 B n1 c1 e1 q1 B' n2 c2 f1 → ((W2.cell? ⟨w.heap.size, 0, none⟩ = some (.bool p) ∧ W2.cell? ⟨w.heap.size, 1, none⟩ = some (.slice A n c) ∧ W2.cell? ⟨w.heap.size, 2, none⟩ = some (.int .i64 e) ∧ W2.cell? ⟨w.heap.size + 1, 0, none⟩ = some (.bool q) ∧ W2.cell? ⟨w.heap.size + 1, 1, none⟩ = some (.slice A' n' c') ∧ W2.cell? ⟨w.heap.size + 1, 2, none⟩ = some (.int .i64 f)) ∧ W2.cell? ⟨g, 0, none⟩ = some (.int .i64 P)) := by
    rintro w' b hG hb p1 B n1 c1 e1 q1 B' n2 c2 f1 _ rfl
    have g6 := set6_grown w' (w.heap.size + 1 + 1) p1 B n1 c1 e1 q1 B' n2 c2 f1
    obtain ⟨z0, z1, z2, -, -, -⟩ := ((xa7.grown hG (show w.heap.size ≠ g by omega)).grown g6 (show w.heap.size ≠ w.heap.size + 1 + 1 by omega)).cell3
    obtain ⟨z3, z4, z5, -, -, -⟩ := ((xb7.grown hG (show w.heap.size + 1 ≠ g by omega)).grown g6 (show w.heap.size + 1 ≠ w.heap.size + 1 + 1 by omega)).cell3
    exact ⟨⟨z0, z1, z2, z3, z4, z5⟩, (hb.other g6 (show g ≠ w.heap.size + 1 + 1 by omega)).cells.1⟩
  have XR := fun w' (hG : w7.grownBy w' (some g)) => (xr7.grown hG (show w.heap.size + 1 + 1 ≠ g by omega)).cell6
  have FIN := fun w' b X u v Y k j (h1 : Arr w' X u v (wd ((pairO b ⟨s1, m1, f1⟩ ⟨s2, m2, f2⟩).getD (Dy.zero, Dy.zero)).1.m)) (h2 : Arr w' Y k j (wd ((pairO b ⟨s1, m1, f1⟩ ⟨s2, m2, f2⟩).getD (Dy.zero, Dy.zero)).2.m)) (hk' : Wk w' g P b tw) (hG : w7.grownBy w' (some g)) => retSp_fin (w := w) (o := pairO b ⟨s1, m1, f1⟩ ⟨s2, m2, f2⟩) (P := P) (tw := tw) h1 h2 (xr7.grown hG (show w.heap.size + 1 + 1 ≠ g by omega)) (by rw [pair_none]; exact hk') (grown_trans gw7 hG) (show g ≠ w.heap.size + 1 + 1 by omega) (by omega)
  have hG : w7.grownBy w7 (some g) := grown_self _ _
  obtain ⟨⟨j0, j1, j2, j3, j4, j5⟩, j6⟩ := KC w7 hG ⟨_, hk7⟩
  have KC := Lib.hid KC
  have KC2 := Lib.hid KC2
  have XR := Lib.hid XR
  have FIN := Lib.hid FIN
  have R1 := Lib.hid R1
  have R2 := Lib.hid R2
  have M1 := Lib.hid M1
  have M2 := Lib.hid M2
  have GV := Lib.hid GV
  have hk0 := hk
  have hk := hk7
  clear xa7 xb7 xr7 hA7 hA7' hT7 hk7 gw7 b1 b2 b3 hk0 h h' hT D1 D2 z1 z2
  go_enter Tryz.func45, Tryz.ntmps45
  go_wp2_with fail
  rw [HW.out]
  go_region_held3 (fun w' => ((w'.cell? ⟨w.heap.size, 0, none⟩ = some (.bool p) ∧ w'.cell? ⟨w.heap.size, 1, none⟩ = some (.slice A n c) ∧ w'.cell? ⟨w.heap.size, 2, none⟩ = some (.int .i64 e) ∧ w'.cell? ⟨w.heap.size + 1, 0, none⟩ = some (.bool q) ∧ w'.cell? ⟨w.heap.size + 1, 1, none⟩ = some (.slice A' n' c') ∧ w'.cell? ⟨w.heap.size + 1, 2, none⟩ = some (.int .i64 f)) ∧ w'.cell? ⟨g, 0, none⟩ = some (.int .i64 P))) (first | (refine KC.out _ ?_ ?_; (focus ((first | with_reducible exact hG | with_reducible exact grown_drew hG))); (first | with_reducible exact ⟨_, hk⟩ | with_reducible exact ⟨_, Wk.drew hk⟩); done) | (refine KC2.out _ _ ?_ hk _ _ _ _ _ _ _ _ _ _ _ rfl; ((first | with_reducible exact hG | with_reducible exact grown_drew hG)); done) | go_keep) (first | (go_at_call_of 76 (Value.bool false); refine (R1.out _ ?_).mono ?_; ((first | with_reducible exact hG | with_reducible exact grown_drew hG)); rintro r w1 ⟨A1, n1, c1, rfl, a1, hc, hG⟩; (try have a2 := Arr.below (Arr.below a2 ((by repeat (first | with_reducible assumption | with_reducible exact below_self _ | with_reducible refine below_drewN ?_ _ | with_reducible apply Below.drew | with_reducible refine below_alloc ?_ _)))) hc); (try have b1 := Arr.below (Arr.below b1 ((by repeat (first | with_reducible assumption | with_reducible exact below_self _ | with_reducible refine below_drewN ?_ _ | with_reducible apply Below.drew | with_reducible refine below_alloc ?_ _)))) hc); (try have b2 := Arr.below (Arr.below b2 ((by repeat (first | with_reducible assumption | with_reducible exact below_self _ | with_reducible refine below_drewN ?_ _ | with_reducible apply Below.drew | with_reducible refine below_alloc ?_ _)))) hc); have hk := Wk.later (Wk.later hk ((by repeat (first | with_reducible assumption | with_reducible exact below_self _ | with_reducible refine below_drewN ?_ _ | with_reducible apply Below.drew | with_reducible refine below_alloc ?_ _)))) hc) | (go_at_call_of 76 (Value.bool true); refine (R2.out _ ?_).mono ?_; ((first | with_reducible exact hG | with_reducible exact grown_drew hG)); rintro r w2 ⟨A2, n2, c2, rfl, a2, hc, hG⟩; (try have a1 := Arr.below (Arr.below a1 ((by repeat (first | with_reducible assumption | with_reducible exact below_self _ | with_reducible refine below_drewN ?_ _ | with_reducible apply Below.drew | with_reducible refine below_alloc ?_ _)))) hc); (try have b1 := Arr.below (Arr.below b1 ((by repeat (first | with_reducible assumption | with_reducible exact below_self _ | with_reducible refine below_drewN ?_ _ | with_reducible apply Below.drew | with_reducible refine below_alloc ?_ _)))) hc); (try have b2 := Arr.below (Arr.below b2 ((by repeat (first | with_reducible assumption | with_reducible exact below_self _ | with_reducible refine below_drewN ?_ _ | with_reducible apply Below.drew | with_reducible refine below_alloc ?_ _)))) hc); have hk := Wk.later (Wk.later hk ((by repeat (first | with_reducible assumption | with_reducible exact below_self _ | with_reducible refine below_drewN ?_ _ | with_reducible apply Below.drew | with_reducible refine below_alloc ?_ _)))) hc) | (go_at_call_of 43 (Value.bool k1); refine (M1.out _ _ _ _ _ (Wk.later hk ((by repeat (first | with_reducible assumption | with_reducible exact below_self _ | with_reducible refine below_drewN ?_ _ | with_reducible apply Below.drew | with_reducible refine below_alloc ?_ _)))) (Arr.below a1 ((by repeat (first | with_reducible assumption | with_reducible exact below_self _ | with_reducible refine below_drewN ?_ _ | with_reducible apply Below.drew | with_reducible refine below_alloc ?_ _)))) ?_).mono ?_; ((first | with_reducible exact hG | with_reducible exact grown_drew hG)); rintro r w3 ⟨B1, x1, y1, rfl, b1, hk3, hc, hG⟩; (try have a2 := Wk.arr (Wk.later hk ((by repeat (first | with_reducible assumption | with_reducible exact below_self _ | with_reducible refine below_drewN ?_ _ | with_reducible apply Below.drew | with_reducible refine below_alloc ?_ _)))) (Arr.below a2 ((by repeat (first | with_reducible assumption | with_reducible exact below_self _ | with_reducible refine below_drewN ?_ _ | with_reducible apply Below.drew | with_reducible refine below_alloc ?_ _)))) hc); (try have b2 := Wk.arr (Wk.later hk ((by repeat (first | with_reducible assumption | with_reducible exact below_self _ | with_reducible refine below_drewN ?_ _ | with_reducible apply Below.drew | with_reducible refine below_alloc ?_ _)))) (Arr.below b2 ((by repeat (first | with_reducible assumption | with_reducible exact below_self _ | with_reducible refine below_drewN ?_ _ | with_reducible apply Below.drew | with_reducible refine below_alloc ?_ _)))) hc); clear a1; have hk := hk3) | (go_at_call_of 43 (Value.bool k2); refine (M2.out _ _ _ _ _ (Wk.later hk ((by repeat (first | with_reducible assumption | with_reducible exact below_self _ | with_reducible refine below_drewN ?_ _ | with_reducible apply Below.drew | with_reducible refine below_alloc ?_ _)))) (Arr.below a2 ((by repeat (first | with_reducible assumption | with_reducible exact below_self _ | with_reducible refine below_drewN ?_ _ | with_reducible apply Below.drew | with_reducible refine below_alloc ?_ _)))) ?_).mono ?_; ((first | with_reducible exact hG | with_reducible exact grown_drew hG)); rintro r w4 ⟨B2, x2, y2, rfl, b2, hk4, hc, hG⟩; (try have a1 := Wk.arr (Wk.later hk ((by repeat (first | with_reducible assumption | with_reducible exact below_self _ | with_reducible refine below_drewN ?_ _ | with_reducible apply Below.drew | with_reducible refine below_alloc ?_ _)))) (Arr.below a1 ((by repeat (first | with_reducible assumption | with_reducible exact below_self _ | with_reducible refine below_drewN ?_ _ | with_reducible apply Below.drew | with_reducible refine below_alloc ?_ _)))) hc); (try have b1 := Wk.arr (Wk.later hk ((by repeat (first | with_reducible assumption | with_reducible exact below_self _ | with_reducible refine below_drewN ?_ _ | with_reducible apply Below.drew | with_reducible refine below_alloc ?_ _)))) (Arr.below b1 ((by repeat (first | with_reducible assumption | with_reducible exact below_self _ | with_reducible refine below_drewN ?_ _ | with_reducible apply Below.drew | with_reducible refine below_alloc ?_ _)))) hc); clear a2; have hk := hk4) | (go_at_call 34; refine (GV.out _ _ _ _ _ _ _ _ (Wk.later hk ((by repeat (first | with_reducible assumption | with_reducible exact below_self _ | with_reducible refine below_drewN ?_ _ | with_reducible apply Below.drew | with_reducible refine below_alloc ?_ _)))) (Arr.below b1 ((by repeat (first | with_reducible assumption | with_reducible exact below_self _ | with_reducible refine below_drewN ?_ _ | with_reducible apply Below.drew | with_reducible refine below_alloc ?_ _)))) (Arr.below b2 ((by repeat (first | with_reducible assumption | with_reducible exact below_self _ | with_reducible refine below_drewN ?_ _ | with_reducible apply Below.drew | with_reducible refine below_alloc ?_ _)))) ?_).mono ?_; ((first | with_reducible exact hG | with_reducible exact grown_drew hG)); rintro r w5 ⟨X1, i1, j1, X2, i2, j2, rfl, e1, e2, hc, hG⟩; have hk := Wk.later (Wk.later hk ((by repeat (first | with_reducible assumption | with_reducible exact below_self _ | with_reducible refine below_drewN ?_ _ | with_reducible apply Below.drew | with_reducible refine below_alloc ?_ _)))) hc; obtain ⟨u0, u1, u2, u3, u4, u5, u6⟩ := XR.out _ hG))
  all_goals
    cases k1 <;> cases k2
    all_goals
      go_wp2_with fail
      refine bodyPost_ret (v := _) ?_ rfl (FIN.out _ _ _ _ _ _ _ _ e1 e2 hk hG)
      simp [results, Tryz.results45, go_sem, u0, u1, u2, u3, u4, u5]
      try rfl
      try simp [pairO]
end Go.Proofs.YteffemhapnbaeaaGreatDoor
namespace Go.Proofs.YteffemhapnbaeaaGreatDoor
open Go.RowKit Num
variable {tw : TypeId}
set_option linter.unusedSimpArgs false
set_option linter.unusedVariables false
set_option maxRecDepth 100000

end Go.Proofs.YteffemhapnbaeaaGreatDoor
namespace Go.Proofs.YteffemhapnbaeaaGreatDoor
open Go.RowKit Num
set_option linter.unusedSimpArgs false
set_option linter.unusedVariables false
set_option maxRecDepth 100000

set_option maxHeartbeats 16000000 in
theorem rnegs03 (p q : Bool) (A A' : Option Addr) (n c n' c' : Nat) (xs ys : List Int) (e f P : Int) (g : Nat) (bad : Bool) (w : World) (h : Arr w A n c xs) (h' : Arr w A' n' c' ys) (hk : Wk w g P bad 38) (hn : n ≤ 100000) (hn' : n' ≤ 100000) :
    Calls Tryz.prog 40 #[.pointer (some ⟨g, 0, none⟩), (.agg #[.bool p, .slice A n c, .int .i64 e, .bool q, .slice A' n' c', .int .i64 f])] w (RetSp (twoO (takeB bad P [⟨p, A, n, c, xs, e, q, A', n', c', ys, f⟩]) (negR q ys f) (negR p xs e)) g P 38 w) := by
  have hg := hk.lt
  have b1 := below_alloc (below_self w) (.cells #[.bool p, .slice A n c, .int .i64 e, .bool q, .slice A' n' c', .int .i64 f] 28)
  have b2 := below_alloc b1 (.cells #[.bool false, .slice none 0 0, .int .i64 0, .bool false, .slice none 0 0, .int .i64 0] 28)
  have b3 : Below w.heap.size w (((w.alloc (.cells #[.bool p, .slice A n c, .int .i64 e, .bool q, .slice A' n' c', .int .i64 f] 28)).alloc (.cells #[.bool false, .slice none 0 0, .int .i64 0, .bool false, .slice none 0 0, .int .i64 0] 28)).alloc (.cells #[.bool p, .slice A n c, .int .i64 e, .bool q, .slice A' n' c', .int .i64 f] 28)) := below_alloc b2 _
  have xa := (box_new w #[.bool p, .slice A n c, .int .i64 e, .bool q, .slice A' n' c', .int .i64 f] 28).later (below_alloc (below_alloc (below_self _) (.cells #[.bool false, .slice none 0 0, .int .i64 0, .bool false, .slice none 0 0, .int .i64 0] 28)) (.cells #[.bool p, .slice A n c, .int .i64 e, .bool q, .slice A' n' c', .int .i64 f] 28))
  have xr := (box_new (w.alloc (.cells #[.bool p, .slice A n c, .int .i64 e, .bool q, .slice A' n' c', .int .i64 f] 28)) #[.bool false, .slice none 0 0, .int .i64 0, .bool false, .slice none 0 0, .int .i64 0] 28).later (below_alloc (below_self _) (.cells #[.bool p, .slice A n c, .int .i64 e, .bool q, .slice A' n' c', .int .i64 f] 28))
  rw [show (w.alloc (.cells #[.bool p, .slice A n c, .int .i64 e, .bool q, .slice A' n' c', .int .i64 f] 28)).heap.size = w.heap.size + 1 by simp] at xr
  have xl := box_new ((w.alloc (.cells #[.bool p, .slice A n c, .int .i64 e, .bool q, .slice A' n' c', .int .i64 f] 28)).alloc (.cells #[.bool false, .slice none 0 0, .int .i64 0, .bool false, .slice none 0 0, .int .i64 0] 28)) #[.bool p, .slice A n c, .int .i64 e, .bool q, .slice A' n' c', .int .i64 f] 28
  rw [show ((w.alloc (.cells #[.bool p, .slice A n c, .int .i64 e, .bool q, .slice A' n' c', .int .i64 f] 28)).alloc (.cells #[.bool false, .slice none 0 0, .int .i64 0, .bool false, .slice none 0 0, .int .i64 0] 28)).heap.size = w.heap.size + 1 + 1 by simp] at xl
  have hk3 := hk.later b3
  have TK := rtake03 g (w.heap.size + 1 + 1) 1 P bad [⟨p, A, n, c, xs, e, q, A', n', c', ys, f⟩] rfl _ hk3 (svs_one xl (h.below b3) (h'.below b3)) (by omega) (by decide) (fun s hs => by
    obtain rfl := List.mem_singleton.1 hs
    exact ⟨by show n ≤ 1000000; omega, by show n' ≤ 1000000; omega⟩)
  obtain ⟨t0, t1, t2, t3, t4, t5, -⟩ := ((box_new w #[.bool p, .slice A n c, .int .i64 e, .bool q, .slice A' n' c', .int .i64 f] 28).later (below_alloc (below_self _) (.cells #[.bool false, .slice none 0 0, .int .i64 0, .bool false, .slice none 0 0, .int .i64 0] 28))).cell6
  generalize takeB bad P [⟨p, A, n, c, xs, e, q, A', n', c', ys, f⟩] = tb at *
  have TK := Lib.hid TK
  clear xl
  cases tb
  · have ho : twoO false (negR q ys f) (negR p xs e) = pairO (!((negR q ys f).isSome && (negR p xs e).isSome)) (optD (negR q ys f)) (optD (negR p xs e)) := rfl
    rw [ho]
    have D1 := fun w' (h2 : Arr w' A' n' c' ys) => rneg02 q A' n' c' ys f w' h2 (by omega)
    have D2 := fun w' (h2 : Arr w' A n c xs) => rneg02 p A n c xs e w' h2 (by omega)
    unfold RetD at D1 D2
    clear ho
    generalize (negR q ys f).isSome = k1 at *
    generalize (negR p xs e).isSome = k2 at *
    generalize optD (negR q ys f) = E1 at *
    generalize optD (negR p xs e) = E2 at *
    obtain ⟨s1, m1, f1⟩ := E1
    obtain ⟨s2, m2, f2⟩ := E2
    simp only at D1 D2
    have D1 := Lib.hid D1
    have D2 := Lib.hid D2
    go_enter Tryz.func40, Tryz.ntmps40
    go_wp2_with fail
    refine TK.out.mono ?_
    rintro r w7 ⟨rfl, hk7, g7⟩
    have xa7 := xa.grown g7 (show w.heap.size ≠ g by omega)
    have xr7 := xr.grown g7 (show w.heap.size + 1 ≠ g by omega)
    have gw7 := grown_trans (grown_of b3 (some g)) g7
    have hA7 := hk.arr h gw7
    have hA7' := hk.arr h' gw7
    clear t0 t1 t2 t3 t4 t5
    obtain ⟨j0, j1, j2, j3, j4, j5, -⟩ := xa7.cell6
    go_wp2_with fail
    refine (D1.out w7 hA7').mono ?_
    rintro r w8 ⟨A1, n1, c1, rfl, a1, hb1⟩
    have xa8 := xa7.later hb1
    obtain ⟨j0, j1, j2, j3, j4, j5, -⟩ := xa8.cell6
    have y0 := fun o => (xa8.later (below_alloc (below_self _) o)).cell 0
    have y1 := fun o => (xa8.later (below_alloc (below_self _) o)).cell 1
    have y2 := fun o => (xa8.later (below_alloc (below_self _) o)).cell 2
    go_wp2_with fail
    obtain ⟨W9, k9, e1, e2, x9, a9, b9, l9⟩ := made_after (w := w7) (s := s1) (f := f1) a1 hb1
    rw [← e1, ← e2]
    have hk9 := hk7.later b9
    have xr9 := xr7.later b9
    have gw9 := grown_on gw7 b9
    have hA9 := hA7.below b9
    clear e1 e2 y0 y1 y2 j0 j1 j2 j3 j4 j5
    refine (D2.out W9 hA9).mono ?_
    rintro r w10 ⟨A2, n2, c2, rfl, a2, hb2⟩
    have x9' := x9.later hb2
    have y0 := fun o => (x9'.later (below_alloc (below_self _) o)).cell 0
    have y1 := fun o => (x9'.later (below_alloc (below_self _) o)).cell 1
    have y2 := fun o => (x9'.later (below_alloc (below_self _) o)).cell 2
    obtain ⟨j0, j1, j2, -, -, -⟩ := x9'.cell3
    go_wp2_with fail
    obtain ⟨W10, k10, e1, e2, x10, a10, b10, l10⟩ := made_after (w := W9) (s := s2) (f := f2) a2 hb2
    rw [← e1]
    try rw [← e2]
    have a9' := a9.below b10
    have hk10 := hk9.later b10
    have xr10 := xr9.later b10
    have gw10 := grown_on gw9 b10
    refine (rgive_o g P s1 s2 k1 k2 m1 f1 m2 f2 A1 A2 n1 c1 n2 c2 W10 hk10 a9' a10).mono ?_
    rintro r w11 ⟨pb, X1, u1, v1, X2, u2, v2, rfl, rfl, z1, z2, hk11, g11⟩
    have xr11 := xr10.grown g11 (show w.heap.size + 1 ≠ g by omega)
    have gw11 := grown_trans gw10 g11
    go_wp2_with (refine wp_put6 rfl _ _ rfl rfl (w.heap.size + 1) _ X1 u1 v1 _ _ X2 u2 v2 _ xr11 rfl rfl (fun W1 y1 gW1 => ?_); obtain ⟨z3, z4, z5, z6, z7, z8, -⟩ := y1.cell6)
    refine bodyPost_ret (v := _) ?_ rfl (retSp_put z1 z2 xr11 (by rw [pair_none]; exact hk11) gw11 (show g ≠ w.heap.size + 1 by omega) (by omega) gW1)
    simp [results, Tryz.results40, go_sem, z3, z4, z5, z6, z7, z8]
  · have ho : twoO true (negR q ys f) (negR p xs e) = none := rfl
    rw [ho]
    go_enter Tryz.func40, Tryz.ntmps40
    go_wp2_with fail
    refine TK.out.mono ?_
    rintro r w7 ⟨rfl, hk7, g7⟩
    have xr7 := xr.grown g7 (show w.heap.size + 1 ≠ g by omega)
    have gw7 := grown_trans (grown_of b3 (some g)) g7
    go_wp2_with (refine wp_put6 rfl _ _ rfl rfl (w.heap.size + 1) false none 0 0 0 false none 0 0 0 xr7 rfl rfl (fun W1 y1 gW1 => ?_); have hk8 := hk7.other gW1 (show g ≠ w.heap.size + 1 by omega); obtain ⟨u0, u1, u2, u3, u4, u5, -⟩ := y1.cell6)
    refine bodyPost_ret (v := (.agg #[.bool false, .slice none 0 0, .int .i64 0, .bool false, .slice none 0 0, .int .i64 0])) ?_ rfl (retSp_none hk8 (grown_own gw7 gW1 (by omega)))
    simp [results, Tryz.results40, go_sem, u0, u1, u2, u3, u4, u5]
end Go.Proofs.YteffemhapnbaeaaGreatDoor
