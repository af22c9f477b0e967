/- A text of ours, with only what the claim's row needs (wip/tools/shake.py). -/
import Derived.Deep.RegionHeld3
import Derived.Test.YteffemhapnbaeaaGreatDoorNI
import Derived.Test.YteffemhapnbaeaaGreatDoorMS
namespace Go.Proofs.YteffemhapnbaeaaGreatDoor
open Go.RowKit Num
set_option linter.unusedSimpArgs false
set_option linter.unusedVariables false
set_option maxRecDepth 100000

set_option maxHeartbeats 16000000 in
theorem rout03 (p q : Bool) (A A' : Option Addr) (n c n' c' : Nat) (xs ys : List Int) (e f P : Int) (g : Nat) (bad : Bool) (w : World) (h : Arr w A n c xs) (h' : Arr w A' n' c' ys) (hk : Wk w g P bad 38) (hn : n ≤ 100000) (hn' : n' ≤ 100000) :
    Calls Tryz.prog 50 #[.pointer (some ⟨g, 0, none⟩), (.agg #[.bool p, .slice A n c, .int .i64 e, .bool q, .slice A' n' c', .int .i64 f])] w (RetSp (twoO (takeB bad P [⟨p, A, n, c, xs, e, q, A', n', c', ys, f⟩]) (cutO p xs e P false) (cutO q ys f P true)) g P 38 w) := by
  have hg := hk.lt
  have b1 := below_alloc (below_self w) (.cells #[.bool p, .slice A n c, .int .i64 e, .bool q, .slice A' n' c', .int .i64 f] 28)
  have b2 := below_alloc b1 (.cells #[.bool false, .slice none 0 0, .int .i64 0, .bool false, .slice none 0 0, .int .i64 0] 28)
  have b3 : Below w.heap.size w (((w.alloc (.cells #[.bool p, .slice A n c, .int .i64 e, .bool q, .slice A' n' c', .int .i64 f] 28)).alloc (.cells #[.bool false, .slice none 0 0, .int .i64 0, .bool false, .slice none 0 0, .int .i64 0] 28)).alloc (.cells #[.bool p, .slice A n c, .int .i64 e, .bool q, .slice A' n' c', .int .i64 f] 28)) := below_alloc b2 _
  have xa := (box_new w #[.bool p, .slice A n c, .int .i64 e, .bool q, .slice A' n' c', .int .i64 f] 28).later (below_alloc (below_alloc (below_self _) (.cells #[.bool false, .slice none 0 0, .int .i64 0, .bool false, .slice none 0 0, .int .i64 0] 28)) (.cells #[.bool p, .slice A n c, .int .i64 e, .bool q, .slice A' n' c', .int .i64 f] 28))
  have xr := (box_new (w.alloc (.cells #[.bool p, .slice A n c, .int .i64 e, .bool q, .slice A' n' c', .int .i64 f] 28)) #[.bool false, .slice none 0 0, .int .i64 0, .bool false, .slice none 0 0, .int .i64 0] 28).later (below_alloc (below_self _) (.cells #[.bool p, .slice A n c, .int .i64 e, .bool q, .slice A' n' c', .int .i64 f] 28))
  rw [show (w.alloc (.cells #[.bool p, .slice A n c, .int .i64 e, .bool q, .slice A' n' c', .int .i64 f] 28)).heap.size = w.heap.size + 1 by simp] at xr
  have xl := box_new ((w.alloc (.cells #[.bool p, .slice A n c, .int .i64 e, .bool q, .slice A' n' c', .int .i64 f] 28)).alloc (.cells #[.bool false, .slice none 0 0, .int .i64 0, .bool false, .slice none 0 0, .int .i64 0] 28)) #[.bool p, .slice A n c, .int .i64 e, .bool q, .slice A' n' c', .int .i64 f] 28
  rw [show ((w.alloc (.cells #[.bool p, .slice A n c, .int .i64 e, .bool q, .slice A' n' c', .int .i64 f] 28)).alloc (.cells #[.bool false, .slice none 0 0, .int .i64 0, .bool false, .slice none 0 0, .int .i64 0] 28)).heap.size = w.heap.size + 1 + 1 by simp] at xl
  have hk3 := hk.later b3
  have TK := rtake03 g (w.heap.size + 1 + 1) 1 P bad [⟨p, A, n, c, xs, e, q, A', n', c', ys, f⟩] rfl _ hk3 (svs_one xl (h.below b3) (h'.below b3)) (by omega) (by decide) (fun s hs => by
    obtain rfl := List.mem_singleton.1 hs
    exact ⟨by show n ≤ 1000000; omega, by show n' ≤ 1000000; omega⟩)
  obtain ⟨t0, t1, t2, t3, t4, t5, -⟩ := ((box_new w #[.bool p, .slice A n c, .int .i64 e, .bool q, .slice A' n' c', .int .i64 f] 28).later (below_alloc (below_self _) (.cells #[.bool false, .slice none 0 0, .int .i64 0, .bool false, .slice none 0 0, .int .i64 0] 28))).cell6
  generalize takeB bad P [⟨p, A, n, c, xs, e, q, A', n', c', ys, f⟩] = tb at *
  have TK := Lib.hid TK
  clear xl
  cases tb
  · have ho : twoO false (cutO p xs e P false) (cutO q ys f P true) = pairO (!((cutO p xs e P false).isSome && (cutO q ys f P true).isSome)) (optD (cutO p xs e P false)) (optD (cutO q ys f P true)) := rfl
    rw [ho]
    have D1 := fun w' (h2 : Arr w' A n c xs) => rCut p A n c xs e P false w' h2 hn
    have D2 := fun w' (h2 : Arr w' A' n' c' ys) => rCut q A' n' c' ys f P true w' h2 hn'
    unfold RetD at D1 D2
    clear ho
    generalize (cutO p xs e P false).isSome = k1 at *
    generalize (cutO q ys f P true).isSome = k2 at *
    generalize optD (cutO p xs e P false) = E1 at *
    generalize optD (cutO q ys f P true) = E2 at *
    obtain ⟨s1, m1, f1⟩ := E1
    obtain ⟨s2, m2, f2⟩ := E2
    simp only at D1 D2
    have D1 := Lib.hid D1
    have D2 := Lib.hid D2
    go_enter Tryz.func50, Tryz.ntmps50
    go_wp2_with fail
    refine TK.out.mono ?_
    rintro r w7 ⟨rfl, hk7, g7⟩
    have xa7 := xa.grown g7 (show w.heap.size ≠ g by omega)
    have xr7 := xr.grown g7 (show w.heap.size + 1 ≠ g by omega)
    have gw7 := grown_trans (grown_of b3 (some g)) g7
    have hA7 := hk.arr h gw7
    have hA7' := hk.arr h' gw7
    have R1 : ∀ w', Below w7.heap.size w7 w' → Calls Tryz.prog 87 #[(.agg #[.bool p, .slice A n c, .int .i64 e]), .int .i64 P, .bool false] w' fun r w'' => ∃ A5 n5 c5, r = .returned (.tuple #[.agg #[.bool s1, .slice A5 n5 c5, .int .i64 f1], .bool k1]) ∧ Arr w'' A5 n5 c5 (wd m1) ∧ Below w'.heap.size w' w'' ∧ Below w7.heap.size w7 w'' := by
      intro w' hG
      refine (D1.out w' (hA7.below hG)).mono ?_
      rintro r w'' ⟨A5, n5, c5, rfl, h5, hb⟩
      exact ⟨A5, n5, c5, rfl, h5, hb, below_on hG hb⟩
    have R2 : ∀ w', Below w7.heap.size w7 w' → Calls Tryz.prog 87 #[(.agg #[.bool q, .slice A' n' c', .int .i64 f]), .int .i64 P, .bool true] w' fun r w'' => ∃ A5 n5 c5, r = .returned (.tuple #[.agg #[.bool s2, .slice A5 n5 c5, .int .i64 f2], .bool k2]) ∧ Arr w'' A5 n5 c5 (wd m2) ∧ Below w'.heap.size w' w'' ∧ Below w7.heap.size w7 w'' := by
      intro w' hG
      refine (D2.out w' (hA7'.below hG)).mono ?_
      rintro r w'' ⟨A5, n5, c5, rfl, h5, hb⟩
      exact ⟨A5, n5, c5, rfl, h5, hb, below_on hG hb⟩
    have KC : ∀ w', Below w7.heap.size w7 w' → ((w'.cell? ⟨w.heap.size, 0, none⟩ = some (.bool p) ∧ w'.cell? ⟨w.heap.size, 1, none⟩ = some (.slice A n c) ∧ w'.cell? ⟨w.heap.size, 2, none⟩ = some (.int .i64 e) ∧ w'.cell? ⟨w.heap.size, 3, none⟩ = some (.bool q) ∧ w'.cell? ⟨w.heap.size, 4, none⟩ = some (.slice A' n' c') ∧ w'.cell? ⟨w.heap.size, 5, none⟩ = some (.int .i64 f)) ∧ w'.cell? ⟨g, 0, none⟩ = some (.int .i64 P)) := by
      intro w' hG
      obtain ⟨z0, z1, z2, z3, z4, z5, -⟩ := (xa7.later hG).cell6
      exact ⟨⟨z0, z1, z2, z3, z4, z5⟩, (hk7.later hG).cells.1⟩
    obtain ⟨⟨j0, j1, j2, j3, j4, j5⟩, j6⟩ := KC w7 (below_self _)
    have KC := Lib.hid KC
    have R1 := Lib.hid R1
    have R2 := Lib.hid R2
    clear t0 t1 t2 t3 t4 t5 xa7 hA7 hA7' xa xr g7 b1 b2 b3 h h' hk3 TK D1 D2
    go_wp2_with fail
    go_region_held3 (fun w' => ((w'.cell? ⟨w.heap.size, 0, none⟩ = some (.bool p) ∧ w'.cell? ⟨w.heap.size, 1, none⟩ = some (.slice A n c) ∧ w'.cell? ⟨w.heap.size, 2, none⟩ = some (.int .i64 e) ∧ w'.cell? ⟨w.heap.size, 3, none⟩ = some (.bool q) ∧ w'.cell? ⟨w.heap.size, 4, none⟩ = some (.slice A' n' c') ∧ w'.cell? ⟨w.heap.size, 5, none⟩ = some (.int .i64 f)) ∧ w'.cell? ⟨g, 0, none⟩ = some (.int .i64 P))) (first | (refine KC.out _ ?_; (repeat (first | with_reducible assumption | with_reducible exact below_self _ | with_reducible refine below_drewN ?_ _ | with_reducible apply Below.drew | with_reducible refine below_alloc ?_ _ | (refine below_set ?_ _ _ (by first | exact Nat.le_refl _ | omega | (simp; done) | (simp; omega)) _))); done) | go_keep) (first | (go_at_call 87; refine (R1.out _ ?_).mono ?_; (repeat (first | with_reducible assumption | with_reducible exact below_self _ | with_reducible refine below_drewN ?_ _ | with_reducible apply Below.drew | with_reducible refine below_alloc ?_ _ | (refine below_set ?_ _ _ (by first | exact Nat.le_refl _ | omega | (simp; done) | (simp; omega)) _))); rintro r w8 ⟨A1, n1, c1, rfl, a1, hc1, hb1⟩; (first | (have NB := new_kept hc1; obtain ⟨v0, v1, v2, v3, v4, v5⟩ := NB.cell3) | skip)))
    have KC7 := KC
    have XR7 := xr7
    all_goals
      first
        | (have MB := made_before (w := w7) (s := s1) (f := f1) a1 hb1 NB)
        | (have MB := made_after (w := w7) (s := s1) (f := f1) a1 hb1)
      obtain ⟨W9, k9, e1, e2, x9, a9, b9, l9⟩ := MB
      rw [← e1, ← e2]
      have KC9 : ∀ w', Below W9.heap.size W9 w' → ((w'.cell? ⟨w.heap.size, 0, none⟩ = some (.bool p) ∧ w'.cell? ⟨w.heap.size, 1, none⟩ = some (.slice A n c) ∧ w'.cell? ⟨w.heap.size, 2, none⟩ = some (.int .i64 e) ∧ w'.cell? ⟨w.heap.size, 3, none⟩ = some (.bool q) ∧ w'.cell? ⟨w.heap.size, 4, none⟩ = some (.slice A' n' c') ∧ w'.cell? ⟨w.heap.size, 5, none⟩ = some (.int .i64 f)) ∧ w'.cell? ⟨g, 0, none⟩ = some (.int .i64 P)) := fun w' hb => KC.out w' (below_on b9 hb)
      have R9 : ∀ w', Below W9.heap.size W9 w' → Calls Tryz.prog 87 #[(.agg #[.bool q, .slice A' n' c', .int .i64 f]), .int .i64 P, .bool true] w' fun r w'' => ∃ A5 n5 c5, r = .returned (.tuple #[.agg #[.bool s2, .slice A5 n5 c5, .int .i64 f2], .bool k2]) ∧ Arr w'' A5 n5 c5 (wd m2) ∧ Below w'.heap.size w' w'' ∧ Below W9.heap.size W9 w'' := by
        intro w' hG
        refine (R2.out w' (below_on b9 hG)).mono ?_
        rintro r w'' ⟨A5, n5, c5, rfl, h5, hb, -⟩
        exact ⟨A5, n5, c5, rfl, h5, hb, below_on hG hb⟩
      have hk9 := hk7.later b9
      have xr9 := xr7.later b9
      have gw9 := grown_on gw7 b9
      have l9' : k9 ≠ g := by have := hk7.lt; omega
      have lr9 : w.heap.size + 1 < k9 := by have := xr7.lt; omega
      clear e1 e2 hb1 R1 R2 KC a1 hc1 j0 j1 j2 j3 j4 j5 j6 hk7 xr7 gw7
      obtain ⟨⟨j0, j1, j2, j3, j4, j5⟩, j6⟩ := KC9 W9 (below_self _)
      have KC := Lib.hid KC9
      have R2 := Lib.hid R9
      clear KC9 R9
      go_wp2_with fail
      go_region_held3 (fun w' => ((w'.cell? ⟨w.heap.size, 0, none⟩ = some (.bool p) ∧ w'.cell? ⟨w.heap.size, 1, none⟩ = some (.slice A n c) ∧ w'.cell? ⟨w.heap.size, 2, none⟩ = some (.int .i64 e) ∧ w'.cell? ⟨w.heap.size, 3, none⟩ = some (.bool q) ∧ w'.cell? ⟨w.heap.size, 4, none⟩ = some (.slice A' n' c') ∧ w'.cell? ⟨w.heap.size, 5, none⟩ = some (.int .i64 f)) ∧ w'.cell? ⟨g, 0, none⟩ = some (.int .i64 P))) (first | (refine KC.out _ ?_; (repeat (first | with_reducible assumption | with_reducible exact below_self _ | with_reducible refine below_drewN ?_ _ | with_reducible apply Below.drew | with_reducible refine below_alloc ?_ _ | (refine below_set ?_ _ _ (by first | exact Nat.le_refl _ | omega | (simp; done) | (simp; omega)) _))); done) | go_keep) (first | (go_at_call 87; refine (R2.out _ ?_).mono ?_; (repeat (first | with_reducible assumption | with_reducible exact below_self _ | with_reducible refine below_drewN ?_ _ | with_reducible apply Below.drew | with_reducible refine below_alloc ?_ _ | (refine below_set ?_ _ _ (by first | exact Nat.le_refl _ | omega | (simp; done) | (simp; omega)) _))); rintro r w10 ⟨A2, n2, c2, rfl, a2, hc2, hb2⟩; (first | (have NB := new_kept hc2; obtain ⟨v0, v1, v2, v3, v4, v5⟩ := NB.cell3) | skip)))
    all_goals
      first
        | (have MB := made_before (w := W9) (s := s2) (f := f2) a2 hb2 NB)
        | (have MB := made_after (w := W9) (s := s2) (f := f2) a2 hb2)
      obtain ⟨W10, k10, e1, e2, x10, a10, b10, l10⟩ := MB
      rw [← e1, ← e2]
      have x9' := x9.later b10
      have a9' := a9.below b10
      have hk10 := hk9.later b10
      have xr10 := xr9.later b10
      have gw10 := grown_on gw9 b10
      have GV := Lib.hid (rgive_o g P s1 s2 k1 k2 m1 f1 m2 f2 A1 A2 n1 c1 n2 c2 W10 hk10 a9' a10)
      clear e1 e2 hb2 a2 hc2 j0 j1 j2 j3 j4 j5 j6 KC R2
      obtain ⟨y0, y1, y2, y3, y4, y5⟩ := x9'.cell3
      obtain ⟨q0, q1, q2, q3, q4, q5⟩ := x10.cell3
      go_wp2_with fail
      refine GV.out.mono ?_
      rintro r w11 ⟨pb, X1, u1, v1, X2, u2, v2, rfl, rfl, z1, z2, hk11, g11⟩
      have xr11 := xr10.grown g11 (show w.heap.size + 1 ≠ g by omega)
      have gw11 := grown_trans gw10 g11
      go_wp2_with (refine wp_put6 rfl _ _ rfl rfl (w.heap.size + 1) _ X1 u1 v1 _ _ X2 u2 v2 _ xr11 rfl rfl (fun W1 y1 gW1 => ?_); obtain ⟨z3, z4, z5, z6, z7, z8, -⟩ := y1.cell6)
      refine bodyPost_ret (v := _) ?_ rfl (retSp_put z1 z2 xr11 (by rw [pair_none]; exact hk11) gw11 (show g ≠ w.heap.size + 1 by omega) (by omega) gW1)
      simp [results, Tryz.results50, go_sem, z3, z4, z5, z6, z7, z8]
  · have ho : twoO true (cutO p xs e P false) (cutO q ys f P true) = none := rfl
    rw [ho]
    go_enter Tryz.func50, Tryz.ntmps50
    go_wp2_with fail
    refine TK.out.mono ?_
    rintro r w7 ⟨rfl, hk7, g7⟩
    have xr7 := xr.grown g7 (show w.heap.size + 1 ≠ g by omega)
    have gw7 := grown_trans (grown_of b3 (some g)) g7
    go_wp2_with (refine wp_put6 rfl _ _ rfl rfl (w.heap.size + 1) false none 0 0 0 false none 0 0 0 xr7 rfl rfl (fun W1 y1 gW1 => ?_); have hk8 := hk7.other gW1 (show g ≠ w.heap.size + 1 by omega); obtain ⟨u0, u1, u2, u3, u4, u5, -⟩ := y1.cell6)
    refine bodyPost_ret (v := (.agg #[.bool false, .slice none 0 0, .int .i64 0, .bool false, .slice none 0 0, .int .i64 0])) ?_ rfl (retSp_none hk8 (grown_own gw7 gW1 (by omega)))
    simp [results, Tryz.results50, go_sem, u0, u1, u2, u3, u4, u5]
end Go.Proofs.YteffemhapnbaeaaGreatDoor
