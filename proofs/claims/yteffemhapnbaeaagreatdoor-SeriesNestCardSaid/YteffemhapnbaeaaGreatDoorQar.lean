/- Walks and laws that the claim's row needs. No conditions. -/
import Derived.Deep.RegionHeld3
import Derived.Test.YteffemhapnbaeaaGreatDoorQao
import Derived.Test.YteffemhapnbaeaaGreatDoorQak
import Derived.Test.YteffemhapnbaeaaGreatDoorQab
import Derived.Test.YteffemhapnbaeaaGreatDoorQac
import Derived.Test.YteffemhapnbaeaaGreatDoorQad
import Derived.Test.YteffemhapnbaeaaGreatDoorQan
import Derived.Test.YteffemhapnbaeaaGreatDoorQap
import Derived.Test.YteffemhapnbaeaaGreatDoorQaq
set_option maxHeartbeats 16000000
set_option linter.unusedSimpArgs false
set_option linter.unusedVariables false
namespace Go.Proofs.YteffemhapnbaeaaGreatDoor
open Go.RowKit Num
set_option maxRecDepth 100000
theorem Bj8 (p q : Bool) (A A' : Option Addr) (n c n' c' : Nat) (xs ys : List Int) (e f P : Int) (g : Nat) (bad : Bool) (w : World) (h : Arr w A n c xs) (h' : Arr w A' n' c' ys) (hk : Wk w g P bad 38) (hn : n ≤ 100000) (hn' : n' ≤ 100000) :
  Calls Tryz.prog 50 #[.pointer (some ⟨g, 0, none⟩), (.agg #[.bool p, .slice A n c, .int .i64 e, .bool q, .slice A' n' c', .int .i64 f])] w (Dx (Fn (Bx bad P [⟨p, A, n, c, xs, e, q, A', n', c', ys, f⟩]) (Du p xs e P false) (Du q ys f P true)) g P 38 w) := by
 have hg := hk.lt
 have b1 := Ba (Bb w) (.cells #[.bool p, .slice A n c, .int .i64 e, .bool q, .slice A' n' c', .int .i64 f] 28)
 have b2 := Ba b1 (.cells #[.bool false, .slice none 0 0, .int .i64 0, .bool false, .slice none 0 0, .int .i64 0] 28)
 have b3 : Below w.heap.size w (((w.alloc (.cells #[.bool p, .slice A n c, .int .i64 e, .bool q, .slice A' n' c', .int .i64 f] 28)).alloc (.cells #[.bool false, .slice none 0 0, .int .i64 0, .bool false, .slice none 0 0, .int .i64 0] 28)).alloc (.cells #[.bool p, .slice A n c, .int .i64 e, .bool q, .slice A' n' c', .int .i64 f] 28)) := Ba b2 _
 have xa := (Bg w #[.bool p, .slice A n c, .int .i64 e, .bool q, .slice A' n' c', .int .i64 f] 28).later (Ba (Ba (Bb _) (.cells #[.bool false, .slice none 0 0, .int .i64 0, .bool false, .slice none 0 0, .int .i64 0] 28)) (.cells #[.bool p, .slice A n c, .int .i64 e, .bool q, .slice A' n' c', .int .i64 f] 28))
 have xr := (Bg (w.alloc (.cells #[.bool p, .slice A n c, .int .i64 e, .bool q, .slice A' n' c', .int .i64 f] 28)) #[.bool false, .slice none 0 0, .int .i64 0, .bool false, .slice none 0 0, .int .i64 0] 28).later (Ba (Bb _) (.cells #[.bool p, .slice A n c, .int .i64 e, .bool q, .slice A' n' c', .int .i64 f] 28))
 rw [show (w.alloc (.cells #[.bool p, .slice A n c, .int .i64 e, .bool q, .slice A' n' c', .int .i64 f] 28)).heap.size = w.heap.size + 1 by simp] at xr
 have xl := Bg ((w.alloc (.cells #[.bool p, .slice A n c, .int .i64 e, .bool q, .slice A' n' c', .int .i64 f] 28)).alloc (.cells #[.bool false, .slice none 0 0, .int .i64 0, .bool false, .slice none 0 0, .int .i64 0] 28)) #[.bool p, .slice A n c, .int .i64 e, .bool q, .slice A' n' c', .int .i64 f] 28
 rw [show ((w.alloc (.cells #[.bool p, .slice A n c, .int .i64 e, .bool q, .slice A' n' c', .int .i64 f] 28)).alloc (.cells #[.bool false, .slice none 0 0, .int .i64 0, .bool false, .slice none 0 0, .int .i64 0] 28)).heap.size = w.heap.size + 1 + 1 by simp] at xl
 have hk3 := hk.later b3
 have TK := Hk g (w.heap.size + 1 + 1) 1 P bad [⟨p, A, n, c, xs, e, q, A', n', c', ys, f⟩] rfl _ hk3 (Ja xl (h.below b3) (h'.below b3)) (by omega) (by decide) (fun s hs => by
  obtain rfl := List.mem_singleton.1 hs
  exact ⟨by show n ≤ 1000000; omega, by show n' ≤ 1000000; omega⟩)
 obtain ⟨t0, t1, t2, t3, t4, t5, -⟩ := ((Bg w #[.bool p, .slice A n c, .int .i64 e, .bool q, .slice A' n' c', .int .i64 f] 28).later (Ba (Bb _) (.cells #[.bool false, .slice none 0 0, .int .i64 0, .bool false, .slice none 0 0, .int .i64 0] 28))).cell6
 generalize Bx bad P [⟨p, A, n, c, xs, e, q, A', n', c', ys, f⟩] = tb at *
 have TK := Be TK
 clear xl
 cases tb
 ·have ho : Fn false (Du p xs e P false) (Du q ys f P true) = Cr (!((Du p xs e P false).isSome && (Du q ys f P true).isSome)) (Ci (Du p xs e P false)) (Ci (Du q ys f P true)) := rfl
  rw [ho]
  have D1 := fun w' (h2 : Arr w' A n c xs) => rCut p A n c xs e P false w' h2 hn
  have D2 := fun w' (h2 : Arr w' A' n' c' ys) => rCut q A' n' c' ys f P true w' h2 hn'
  unfold He at D1 D2
  clear ho
  generalize (Du p xs e P false).isSome = k1 at *
  generalize (Du q ys f P true).isSome = k2 at *
  generalize Ci (Du p xs e P false) = E1 at *
  generalize Ci (Du q ys f P true) = E2 at *
  obtain ⟨s1, m1, f1⟩ := E1
  obtain ⟨s2, m2, f2⟩ := E2
  simp only at D1 D2
  have D1 := Be D1
  have D2 := Be D2
  go_enter Tryz.func50, Tryz.ntmps50
  go_wp2_with fail
  refine TK.out.mono ?_
  rintro r w7 ⟨rfl, hk7, g7⟩
  have xa7 := xa.grown g7 (show w.heap.size ≠ g by omega)
  have xr7 := xr.grown g7 (show w.heap.size + 1 ≠ g by omega)
  have gw7 := Bi (Bv b3 (some g)) g7
  have hA7 := hk.arr h gw7
  have hA7' := hk.arr h' gw7
  have R1 : ∀ w', Below w7.heap.size w7 w' → Calls Tryz.prog 87 #[(.agg #[.bool p, .slice A n c, .int .i64 e]), .int .i64 P, .bool false] w' fun r w'' => ∃ A5 n5 c5, r = .returned (.tuple #[.agg #[.bool s1, .slice A5 n5 c5, .int .i64 f1], .bool k1]) ∧ Arr w'' A5 n5 c5 (wd m1) ∧ Below w'.heap.size w' w'' ∧ Below w7.heap.size w7 w'' := by
   intro w' hG
   refine (D1.out w' (hA7.below hG)).mono ?_
   rintro r w'' ⟨A5, n5, c5, rfl, h5, hb⟩
   exact ⟨A5, n5, c5, rfl, h5, hb, Bc hG hb⟩
  have R2 : ∀ w', Below w7.heap.size w7 w' → Calls Tryz.prog 87 #[(.agg #[.bool q, .slice A' n' c', .int .i64 f]), .int .i64 P, .bool true] w' fun r w'' => ∃ A5 n5 c5, r = .returned (.tuple #[.agg #[.bool s2, .slice A5 n5 c5, .int .i64 f2], .bool k2]) ∧ Arr w'' A5 n5 c5 (wd m2) ∧ Below w'.heap.size w' w'' ∧ Below w7.heap.size w7 w'' := by
   intro w' hG
   refine (D2.out w' (hA7'.below hG)).mono ?_
   rintro r w'' ⟨A5, n5, c5, rfl, h5, hb⟩
   exact ⟨A5, n5, c5, rfl, h5, hb, Bc hG hb⟩
  have KC : ∀ w', Below w7.heap.size w7 w' → ((w'.cell? ⟨w.heap.size, 0, none⟩ = some (.bool p) ∧ w'.cell? ⟨w.heap.size, 1, none⟩ = some (.slice A n c) ∧ w'.cell? ⟨w.heap.size, 2, none⟩ = some (.int .i64 e) ∧ w'.cell? ⟨w.heap.size, 3, none⟩ = some (.bool q) ∧ w'.cell? ⟨w.heap.size, 4, none⟩ = some (.slice A' n' c') ∧ w'.cell? ⟨w.heap.size, 5, none⟩ = some (.int .i64 f)) ∧ w'.cell? ⟨g, 0, none⟩ = some (.int .i64 P)) := by
   intro w' hG
   obtain ⟨z0, z1, z2, z3, z4, z5, -⟩ := (xa7.later hG).cell6
   exact ⟨⟨z0, z1, z2, z3, z4, z5⟩, (hk7.later hG).cells.1⟩
  obtain ⟨⟨j0, j1, j2, j3, j4, j5⟩, j6⟩ := KC w7 (Bb _)
  have KC := Be KC
  have R1 := Be R1
  have R2 := Be R2
  clear t0 t1 t2 t3 t4 t5 xa7 hA7 hA7' xa xr g7 b1 b2 b3 h h' hk3 TK D1 D2
  go_wp2_with fail
  go_region_held3 (fun w' => ((w'.cell? ⟨w.heap.size, 0, none⟩ = some (.bool p) ∧ w'.cell? ⟨w.heap.size, 1, none⟩ = some (.slice A n c) ∧ w'.cell? ⟨w.heap.size, 2, none⟩ = some (.int .i64 e) ∧ w'.cell? ⟨w.heap.size, 3, none⟩ = some (.bool q) ∧ w'.cell? ⟨w.heap.size, 4, none⟩ = some (.slice A' n' c') ∧ w'.cell? ⟨w.heap.size, 5, none⟩ = some (.int .i64 f)) ∧ w'.cell? ⟨g, 0, none⟩ = some (.int .i64 P))) (first | (refine KC.out _ ?_; (repeat (first | with_reducible assumption | with_reducible exact Bb _ | with_reducible refine Bd ?_ _ | with_reducible apply Below.drew | with_reducible refine Ba ?_ _ | (refine Bo ?_ _ _ (by first | exact Nat.le_refl _ | omega | (simp; done) | (simp; omega)) _))); done) | go_keep) (first | (go_at_call 87; refine (R1.out _ ?_).mono ?_; (repeat (first | with_reducible assumption | with_reducible exact Bb _ | with_reducible refine Bd ?_ _ | with_reducible apply Below.drew | with_reducible refine Ba ?_ _ | (refine Bo ?_ _ _ (by first | exact Nat.le_refl _ | omega | (simp; done) | (simp; omega)) _))); rintro r w8 ⟨A1, n1, c1, rfl, a1, hc1, hb1⟩; (first | (have NB := Hp hc1; obtain ⟨v0, v1, v2, v3, v4, v5⟩ := NB.cell3) | skip)))
  have KC7 := KC
  have XR7 := xr7
  all_goals
   first
    | (have MB := Fp (w := w7) (s := s1) (f := f1) a1 hb1 NB)
    | (have MB := Da (w := w7) (s := s1) (f := f1) a1 hb1)
   obtain ⟨W9, k9, e1, e2, x9, a9, b9, l9⟩ := MB
   rw [← e1, ← e2]
   have KC9 : ∀ w', Below W9.heap.size W9 w' → ((w'.cell? ⟨w.heap.size, 0, none⟩ = some (.bool p) ∧ w'.cell? ⟨w.heap.size, 1, none⟩ = some (.slice A n c) ∧ w'.cell? ⟨w.heap.size, 2, none⟩ = some (.int .i64 e) ∧ w'.cell? ⟨w.heap.size, 3, none⟩ = some (.bool q) ∧ w'.cell? ⟨w.heap.size, 4, none⟩ = some (.slice A' n' c') ∧ w'.cell? ⟨w.heap.size, 5, none⟩ = some (.int .i64 f)) ∧ w'.cell? ⟨g, 0, none⟩ = some (.int .i64 P)) := fun w' hb => KC.out w' (Bc b9 hb)
   have R9 : ∀ w', Below W9.heap.size W9 w' → Calls Tryz.prog 87 #[(.agg #[.bool q, .slice A' n' c', .int .i64 f]), .int .i64 P, .bool true] w' fun r w'' => ∃ A5 n5 c5, r = .returned (.tuple #[.agg #[.bool s2, .slice A5 n5 c5, .int .i64 f2], .bool k2]) ∧ Arr w'' A5 n5 c5 (wd m2) ∧ Below w'.heap.size w' w'' ∧ Below W9.heap.size W9 w'' := by
    intro w' hG
    refine (R2.out w' (Bc b9 hG)).mono ?_
    rintro r w'' ⟨A5, n5, c5, rfl, h5, hb, -⟩
    exact ⟨A5, n5, c5, rfl, h5, hb, Bc hG hb⟩
   have hk9 := hk7.later b9
   have xr9 := xr7.later b9
   have gw9 := Bp gw7 b9
   have l9' : k9 ≠ g := by have := hk7.lt; omega
   have lr9 : w.heap.size + 1 < k9 := by have := xr7.lt; omega
   clear e1 e2 hb1 R1 R2 KC a1 hc1 j0 j1 j2 j3 j4 j5 j6 hk7 xr7 gw7
   obtain ⟨⟨j0, j1, j2, j3, j4, j5⟩, j6⟩ := KC9 W9 (Bb _)
   have KC := Be KC9
   have R2 := Be R9
   clear KC9 R9
   go_wp2_with fail
   go_region_held3 (fun w' => ((w'.cell? ⟨w.heap.size, 0, none⟩ = some (.bool p) ∧ w'.cell? ⟨w.heap.size, 1, none⟩ = some (.slice A n c) ∧ w'.cell? ⟨w.heap.size, 2, none⟩ = some (.int .i64 e) ∧ w'.cell? ⟨w.heap.size, 3, none⟩ = some (.bool q) ∧ w'.cell? ⟨w.heap.size, 4, none⟩ = some (.slice A' n' c') ∧ w'.cell? ⟨w.heap.size, 5, none⟩ = some (.int .i64 f)) ∧ w'.cell? ⟨g, 0, none⟩ = some (.int .i64 P))) (first | (refine KC.out _ ?_; (repeat (first | with_reducible assumption | with_reducible exact Bb _ | with_reducible refine Bd ?_ _ | with_reducible apply Below.drew | with_reducible refine Ba ?_ _ | (refine Bo ?_ _ _ (by first | exact Nat.le_refl _ | omega | (simp; done) | (simp; omega)) _))); done) | go_keep) (first | (go_at_call 87; refine (R2.out _ ?_).mono ?_; (repeat (first | with_reducible assumption | with_reducible exact Bb _ | with_reducible refine Bd ?_ _ | with_reducible apply Below.drew | with_reducible refine Ba ?_ _ | (refine Bo ?_ _ _ (by first | exact Nat.le_refl _ | omega | (simp; done) | (simp; omega)) _))); rintro r w10 ⟨A2, n2, c2, rfl, a2, hc2, hb2⟩; (first | (have NB := Hp hc2; obtain ⟨v0, v1, v2, v3, v4, v5⟩ := NB.cell3) | skip)))
  all_goals
   first
    | (have MB := Fp (w := W9) (s := s2) (f := f2) a2 hb2 NB)
    | (have MB := Da (w := W9) (s := s2) (f := f2) a2 hb2)
   obtain ⟨W10, k10, e1, e2, x10, a10, b10, l10⟩ := MB
   rw [← e1, ← e2]
   have x9' := x9.later b10
   have a9' := a9.below b10
   have hk10 := hk9.later b10
   have xr10 := xr9.later b10
   have gw10 := Bp gw9 b10
   have GV := Be (Sd g P s1 s2 k1 k2 m1 f1 m2 f2 A1 A2 n1 c1 n2 c2 W10 hk10 a9' a10)
   clear e1 e2 hb2 a2 hc2 j0 j1 j2 j3 j4 j5 j6 KC R2
   obtain ⟨y0, y1, y2, y3, y4, y5⟩ := x9'.cell3
   obtain ⟨q0, q1, q2, q3, q4, q5⟩ := x10.cell3
   go_wp2_with fail
   refine GV.out.mono ?_
   rintro r w11 ⟨pb, X1, u1, v1, X2, u2, v2, rfl, rfl, z1, z2, hk11, g11⟩
   have xr11 := xr10.grown g11 (show w.heap.size + 1 ≠ g by omega)
   have gw11 := Bi gw10 g11
   go_wp2_with (refine Bt rfl _ _ rfl rfl (w.heap.size + 1) _ X1 u1 v1 _ _ X2 u2 v2 _ xr11 rfl rfl (fun W1 y1 gW1 => ?_); obtain ⟨z3, z4, z5, z6, z7, z8, -⟩ := y1.cell6)
   refine bodyPost_ret (v := _) ?_ rfl (Ff z1 z2 xr11 (by rw [Gx]; exact hk11) gw11 (show g ≠ w.heap.size + 1 by omega) (by omega) gW1)
   simp [results, Tryz.results50, go_sem, z3, z4, z5, z6, z7, z8]
 ·have ho : Fn true (Du p xs e P false) (Du q ys f P true) = none := rfl
  rw [ho]
  go_enter Tryz.func50, Tryz.ntmps50
  go_wp2_with fail
  refine TK.out.mono ?_
  rintro r w7 ⟨rfl, hk7, g7⟩
  have xr7 := xr.grown g7 (show w.heap.size + 1 ≠ g by omega)
  have gw7 := Bi (Bv b3 (some g)) g7
  go_wp2_with (refine Bt rfl _ _ rfl rfl (w.heap.size + 1) false none 0 0 0 false none 0 0 0 xr7 rfl rfl (fun W1 y1 gW1 => ?_); have hk8 := hk7.other gW1 (show g ≠ w.heap.size + 1 by omega); obtain ⟨u0, u1, u2, u3, u4, u5, -⟩ := y1.cell6)
  refine bodyPost_ret (v := (.agg #[.bool false, .slice none 0 0, .int .i64 0, .bool false, .slice none 0 0, .int .i64 0])) ?_ rfl (Cl hk8 (Cd gw7 gW1 (by omega)))
  simp [results, Tryz.results50, go_sem, u0, u1, u2, u3, u4, u5]
def Ga (p : Bool) (xs : List Int) (e : Int) : Option Dy := if Bq p xs e then some ⟨!p && decide (0 < xs.length), val xs, e⟩ else none
theorem dneg (p : Bool) (A : Option Addr) (n c : Nat) (xs : List Int) (e : Int) (w : World) (h : Arr w A n c xs) :
  Calls Tryz.prog 80 #[.agg #[.bool p, .slice A n c, .int .i64 e]] w (He (Ga p xs e) w) := by
 have b1 : Below w.heap.size w ((w.alloc (.cells #[.bool p, .slice A n c, .int .i64 e] 26)).alloc (.cells #[.bool false, .slice none 0 0, .int .i64 0] 26)) := Ba (Ba (Bb w) _) _
 have H := h.below b1
 have PL := Be (plain p A n c xs e _ H)
 have bx := (Bg w #[.bool p, .slice A n c, .int .i64 e] 26).later (Ba (Bb _) (.cells #[.bool false, .slice none 0 0, .int .i64 0] 26))
 have br := Bg (w.alloc (.cells #[.bool p, .slice A n c, .int .i64 e] 26)) #[.bool false, .slice none 0 0, .int .i64 0] 26
 rw [show (w.alloc (.cells #[.bool p, .slice A n c, .int .i64 e] 26)).heap.size = w.heap.size + 1 by simp] at br
 obtain ⟨k0, k1, k2, f0, f1, f2⟩ := bx.cell3
 cases hpl : Bq p xs e
 ·have er : Ga p xs e = none := by unfold Ga; rw [hpl]; rfl
  rw [er]
  rw [hpl] at PL
  go_enter Tryz.func80, Tryz.ntmps80
  go_wp2_with fail
  refine PL.out.mono ?_; rintro r w3 ⟨rfl, hb3⟩
  have hw3 := Bc b1 hb3
  have br3 := br.later hb3
  obtain ⟨z0, z1, z2, y0, y1, y2⟩ := br3.cell3
  go_wp2_with fail
  refine bodyPost_ret (v := .tuple #[.agg #[.bool false, .slice none 0 0, .int .i64 0], .bool false]) (by simp [results, Tryz.results80, go_sem, z0, z1, z2]) rfl ?_
  exact Bu (o := none) (Dj _) br3 hw3 (by omega)
 ·obtain ⟨pd, l256, wx, vp⟩ := Bm h.wf hpl
  have er : Ga p xs e = some ⟨!p && decide (0 < n), val xs, e⟩ := by unfold Ga; rw [hpl, h.len]; rfl
  rw [er]
  rw [hpl] at PL
  have hl := h.len
  have TR := Be (fun w1 (hb : Below ((w.alloc (.cells #[.bool p, .slice A n c, .int .i64 e] 26)).alloc (.cells #[.bool false, .slice none 0 0, .int .i64 0] 26)).heap.size ((w.alloc (.cells #[.bool p, .slice A n c, .int .i64 e] 26)).alloc (.cells #[.bool false, .slice none 0 0, .int .i64 0] 26)) w1) => (Bg5 A n c xs w1 (H.below hb) (by omega)))
  have TR : ∀ (w1 : World) (hb : Below ((w.alloc (.cells #[.bool p, .slice A n c, .int .i64 e] 26)).alloc (.cells #[.bool false, .slice none 0 0, .int .i64 0] 26)).heap.size ((w.alloc (.cells #[.bool p, .slice A n c, .int .i64 e] 26)).alloc (.cells #[.bool false, .slice none 0 0, .int .i64 0] 26)) w1), Calls Tryz.prog 114 #[.slice A n c] w1 fun r w5 => ∃ A5 n5 c5, r = .returned (.slice A5 n5 c5) ∧ Arr w5 A5 n5 c5 (wd (val xs)) ∧ Below ((w.alloc (.cells #[.bool p, .slice A n c, .int .i64 e] 26)).alloc (.cells #[.bool false, .slice none 0 0, .int .i64 0] 26)).heap.size ((w.alloc (.cells #[.bool p, .slice A n c, .int .i64 e] 26)).alloc (.cells #[.bool false, .slice none 0 0, .int .i64 0] 26)) w5 := by
   intro w1 hb
   refine (TR.out w1 hb).mono ?_
   rintro r w5 ⟨A5, n5, c5, rfl, ha, hb5⟩
   exact ⟨A5, n5, c5, rfl, ha.arr, Bc hb hb5⟩
  have TR := Be TR
  have KC : ∀ w', Below ((w.alloc (.cells #[.bool p, .slice A n c, .int .i64 e] 26)).alloc (.cells #[.bool false, .slice none 0 0, .int .i64 0] 26)).heap.size ((w.alloc (.cells #[.bool p, .slice A n c, .int .i64 e] 26)).alloc (.cells #[.bool false, .slice none 0 0, .int .i64 0] 26)) w' → (w'.cell? ⟨w.heap.size, 0, none⟩ = some (.bool p) ∧ w'.cell? ⟨w.heap.size, 1, none⟩ = some (.slice A n c) ∧ w'.cell? ⟨w.heap.size, 2, none⟩ = some (.int .i64 e)) := fun w' hb => ⟨(bx.later hb).cell 0, (bx.later hb).cell 1, (bx.later hb).cell 2⟩
  have KC := Be KC
  clear pd vp hl h H er hpl bx
  generalize hm : val xs = m at *
  clear hm wx
  cases p
  ·skip
   all_goals
    go_enter Tryz.func80, Tryz.ntmps80
    go_wp2_with fail
    refine PL.out.mono ?_; rintro r w3 ⟨rfl, hb3⟩
    have hw3 := Bc b1 hb3
    have br3 := br.later hb3
    obtain ⟨x0, x1, x2⟩ := KC.out w3 hb3
    obtain ⟨z0, z1, z2, y0, y1, y2⟩ := br3.cell3
    clear k0 k1 k2 f0 f1 f2
    go_wp2_with fail
    go_region_held3 (fun w' => w'.cell? ⟨w.heap.size, 0, none⟩ = some (.bool false) ∧ w'.cell? ⟨w.heap.size, 1, none⟩ = some (.slice A n c) ∧ w'.cell? ⟨w.heap.size, 2, none⟩ = some (.int .i64 e)) (first | (refine KC.out _ ?_; (repeat with_reducible (first | assumption | exact Bb _ | refine Bd ?_ _ | apply Below.drew | refine Ba ?_ _)); done) | go_keep) (first | (go_at_call 114; refine (TR.out _ ?_).mono ?_; (repeat with_reducible (first | assumption | exact Bb _ | refine Bd ?_ _ | apply Below.drew | refine Ba ?_ _)); rintro r w5 ⟨A5, n5, c5, rfl, h5, hb5⟩; obtain ⟨u0, u1, u2, u3, u4, u5⟩ := (br.later hb5).cell3))
    all_goals
     go_wp2_with fail
     refine bodyPost_ret (v := _) ?_ rfl (Bu h5 (br.later hb5) (Bc b1 hb5) (by omega))
     simp [results, Tryz.results80, go_sem, u0, u1, u2]
     try exact ⟨rfl, rfl⟩
  ·skip
   all_goals
    go_enter Tryz.func80, Tryz.ntmps80
    go_wp2_with fail
    refine PL.out.mono ?_; rintro r w3 ⟨rfl, hb3⟩
    have hw3 := Bc b1 hb3
    have br3 := br.later hb3
    obtain ⟨x0, x1, x2⟩ := KC.out w3 hb3
    obtain ⟨z0, z1, z2, y0, y1, y2⟩ := br3.cell3
    clear k0 k1 k2 f0 f1 f2
    go_wp2_with fail
    refine wp_region_held_drew (S := fun w' => w'.cell? ⟨w.heap.size, 0, none⟩ = some (.bool true) ∧ w'.cell? ⟨w.heap.size, 1, none⟩ = some (.slice A n c) ∧ w'.cell? ⟨w.heap.size, 2, none⟩ = some (.int .i64 e)) (by kernel_rfl) (KC.out _ ((by repeat with_reducible (first | assumption | exact Bb _ | refine Bd ?_ _ | apply Below.drew | refine Ba ?_ _)))) (fun hHeld => ?_)
    (refine wpAnyH_take (i := 0) (v := ?_) rfl (by kernel_rfl) (by kernel_rfl) (by kernel_rfl) (fun _ _ _ h => h) (Or.inl ⟨by rfl, ?_⟩) (by assumption) ?_; rotate_left; (focus (intro w hSw; (try dsimp only at hSw); go_simp; (try with_reducible rfl))); (try simp only [Act.put, Bf]))
    (refine wpAnyH_take (i := 1) (v := ?_) rfl (by kernel_rfl) (by kernel_rfl) (by kernel_rfl) (fun _ _ _ h => h) (Or.inl ⟨by rfl, ?_⟩) (by assumption) ?_; rotate_left; (focus (intro w hSw; (try dsimp only at hSw); go_simp; (try with_reducible rfl))); (try simp only [Act.put, Bf]))
    (refine wpAnyH_take (i := 2) (v := ?_) rfl (by kernel_rfl) (by kernel_rfl) (by kernel_rfl) (fun _ _ _ h => h) (Or.inl ⟨by rfl, ?_⟩) (by assumption) ?_; rotate_left; (focus (intro w hSw; (try dsimp only at hSw); go_simp; (try with_reducible rfl))); (try simp only [Act.put, Bf]))
    (refine wpAnyH_take (i := 3) (v := ?_) rfl (by kernel_rfl) (by kernel_rfl) (by kernel_rfl) (fun _ _ _ h => h) (Or.inl ⟨by rfl, ?_⟩) (by assumption) ?_; rotate_left; (focus (intro w hSw; (try dsimp only at hSw); go_simp; (try with_reducible rfl))); (try simp only [Act.put, Bf]))
    (refine wpAnyH_take (i := 4) rfl (by kernel_rfl) (by kernel_rfl) (by kernel_rfl) (fun _ _ _ h => h) (Or.inr ⟨by rfl, rfl⟩) (by assumption) ?_; (try simp only [Act.put, Bf]))
    (refine wpAnyH_take (i := 5) rfl (by kernel_rfl) (by kernel_rfl) (by kernel_rfl) (fun _ _ _ h => h) (Or.inr ⟨by rfl, rfl⟩) (by assumption) ?_; (try simp only [Act.put, Bf]))
    (refine wpAnyH_take (i := 6) rfl (by kernel_rfl) (by kernel_rfl) (by kernel_rfl) (fun _ _ _ h => h) (Or.inr ⟨by rfl, rfl⟩) (by assumption) ?_; (try simp only [Act.put, Bf]))
    (refine wpAnyH_take (i := 7) rfl (by kernel_rfl) (by kernel_rfl) (by kernel_rfl) (fun _ _ _ h => h) (Or.inr ⟨by rfl, rfl⟩) (by assumption) ?_; (try simp only [Act.put, Bf]))
    (refine wpAnyH_take (i := 8) (v := ?_) rfl (by kernel_rfl) (by kernel_rfl) (by kernel_rfl) (fun _ _ _ h => h) (Or.inl ⟨by rfl, ?_⟩) (by assumption) ?_; rotate_left; (focus (intro w hSw; (try dsimp only at hSw); go_simp; (try with_reducible rfl))); (try simp only [Act.put, Bf]))
    (refine wpAnyH_take (i := 9) (v := ?_) rfl (by kernel_rfl) (by kernel_rfl) (by kernel_rfl) (fun _ _ _ h => h) (Or.inl ⟨by rfl, ?_⟩) (by assumption) ?_; rotate_left; (focus (intro w hSw; (try dsimp only at hSw); go_simp; (try with_reducible rfl))); (try simp only [Act.put, Bf]))
    (refine wpAnyH_take (i := 10) (v := ?_) rfl (by kernel_rfl) (by kernel_rfl) (by kernel_rfl) (fun _ _ _ h => h) (Or.inl ⟨by rfl, ?_⟩) (by assumption) ?_; rotate_left; (focus (intro w hSw; (try dsimp only at hSw); go_simp; (try with_reducible rfl))); (try simp only [Act.put, Bf]))
    (refine wpAnyH_take (i := 12) (v := ?_) rfl (by kernel_rfl) (by kernel_rfl) (by kernel_rfl) (fun _ _ _ h => h) (Or.inl ⟨by rfl, ?_⟩) (by assumption) ?_; rotate_left; (focus (intro w hSw; (try dsimp only at hSw); go_simp; (try with_reducible rfl))); (try simp only [Act.put, Bf]))
    (refine wpAnyH_take (i := 13) (v := ?_) rfl (by kernel_rfl) (by kernel_rfl) (by kernel_rfl) (fun _ _ _ h => h) (Or.inl ⟨by rfl, ?_⟩) (by assumption) ?_; rotate_left; (focus (intro w hSw; (try dsimp only at hSw); go_simp; (try with_reducible rfl))); (try simp only [Act.put, Bf]))
    (refine wpAnyH_ready (rs := [11]) (by kernel_rfl) (by simp) ?_; refine AllReadyH.cons rfl (fun K hK => ?_) AllReadyH.nil)
    go_simp
    go_at_call 114
    refine (TR.out _ ((by repeat with_reducible (first | assumption | exact Bb _ | refine Bd ?_ _ | apply Below.drew | refine Ba ?_ _)))).mono ?_
    rintro r w5 ⟨A5, n5, c5, rfl, h5, hb5⟩
    obtain ⟨u0, u1, u2, u3, u4, u5⟩ := (br.later hb5).cell3
    refine hK.out _ _ (KC.out _ hb5) (fun hHeld2 => ?_)
    clear hHeld hK K
    (try simp only [Act.put, Bf])
    (refine wpAnyH_take (i := 14) (v := ?_) rfl (by kernel_rfl) (by kernel_rfl) (by kernel_rfl) (fun _ _ _ h => h) (Or.inl ⟨by rfl, ?_⟩) (by assumption) ?_; rotate_left; (focus (intro w hSw; (try dsimp only at hSw); go_simp; (try with_reducible rfl))); (try simp only [Act.put, Bf]))
    (refine wpAnyH_ready (rs := [15]) (by kernel_rfl) (by simp) ?_; refine AllReadyH.cons rfl (fun K hK => ?_) AllReadyH.nil)
    go_simp
    refine hK.out _ _ ?_ (fun hHeld3 => ?_)
    ·simp [*, World.cell?_alloc_some, World.cell?_setCell_far]
    clear hHeld2 hK K
    (try simp only [Act.put, Bf])
    (refine wpAnyH_take (i := 16) (oi := ⟨some 3, _, _, _, _, _⟩) (v := ?_) rfl (by kernel_rfl) (by kernel_rfl) (by kernel_rfl) (fun _ _ _ h => h) (Or.inl ⟨by rfl, ?_⟩) (by assumption) ?_; rotate_left; (focus (intro w hSw; (try dsimp only at hSw); go_simp; (try with_reducible rfl))); (try simp only [Act.put, Bf]))
    refine wpAnyH_done (by kernel_rfl) ?_ _
    all_goals
     go_wp2_with fail
     refine bodyPost_ret (v := _) ?_ rfl (Bu h5 (br.later hb5) (Bc b1 hb5) (by omega))
     simp [results, Tryz.results80, go_sem, u0, u1, u2]
     try exact ⟨rfl, rfl⟩
variable {tw : TypeId}
theorem Bgf (p q : Bool) (A A' : Option Addr) (n c n' c' : Nat) (xs ys : List Int) (e f P : Int) (g : Nat) (bad : Bool) (w : World) (h : Arr w A n c xs) (h' : Arr w A' n' c' ys) (hT : Tz w) (hk : Wk w g P bad tw) :
  Calls Tryz.prog 39 #[.pointer (some ⟨g, 0, none⟩), (.agg #[.bool p, .slice A n c, .int .i64 e, .bool q, .slice A' n' c', .int .i64 f])] w (Dx (Fn (Bx bad P [⟨p, A, n, c, xs, e, q, A', n', c', ys, f⟩]) (Ga q ys f) (Ga p xs e)) g P tw w) := by
 have hg := hk.lt
 have b1 := Ba (Bb w) (.cells #[.bool p, .slice A n c, .int .i64 e, .bool q, .slice A' n' c', .int .i64 f] 28)
 have b2 := Ba b1 (.cells #[.bool false, .slice none 0 0, .int .i64 0, .bool false, .slice none 0 0, .int .i64 0] 28)
 have b3 : Below w.heap.size w (((w.alloc (.cells #[.bool p, .slice A n c, .int .i64 e, .bool q, .slice A' n' c', .int .i64 f] 28)).alloc (.cells #[.bool false, .slice none 0 0, .int .i64 0, .bool false, .slice none 0 0, .int .i64 0] 28)).alloc (.cells #[.bool p, .slice A n c, .int .i64 e, .bool q, .slice A' n' c', .int .i64 f] 28)) := Ba b2 _
 have xa := (Bg w #[.bool p, .slice A n c, .int .i64 e, .bool q, .slice A' n' c', .int .i64 f] 28).later (Ba (Ba (Bb _) (.cells #[.bool false, .slice none 0 0, .int .i64 0, .bool false, .slice none 0 0, .int .i64 0] 28)) (.cells #[.bool p, .slice A n c, .int .i64 e, .bool q, .slice A' n' c', .int .i64 f] 28))
 have xr := (Bg (w.alloc (.cells #[.bool p, .slice A n c, .int .i64 e, .bool q, .slice A' n' c', .int .i64 f] 28)) #[.bool false, .slice none 0 0, .int .i64 0, .bool false, .slice none 0 0, .int .i64 0] 28).later (Ba (Bb _) (.cells #[.bool p, .slice A n c, .int .i64 e, .bool q, .slice A' n' c', .int .i64 f] 28))
 rw [show (w.alloc (.cells #[.bool p, .slice A n c, .int .i64 e, .bool q, .slice A' n' c', .int .i64 f] 28)).heap.size = w.heap.size + 1 by simp] at xr
 have xl := Bg ((w.alloc (.cells #[.bool p, .slice A n c, .int .i64 e, .bool q, .slice A' n' c', .int .i64 f] 28)).alloc (.cells #[.bool false, .slice none 0 0, .int .i64 0, .bool false, .slice none 0 0, .int .i64 0] 28)) #[.bool p, .slice A n c, .int .i64 e, .bool q, .slice A' n' c', .int .i64 f] 28
 rw [show ((w.alloc (.cells #[.bool p, .slice A n c, .int .i64 e, .bool q, .slice A' n' c', .int .i64 f] 28)).alloc (.cells #[.bool false, .slice none 0 0, .int .i64 0, .bool false, .slice none 0 0, .int .i64 0] 28)).heap.size = w.heap.size + 1 + 1 by simp] at xl
 have hk3 := hk.later b3
 have TK := Mk g (w.heap.size + 1 + 1) 1 P bad [⟨p, A, n, c, xs, e, q, A', n', c', ys, f⟩] rfl _ hk3 (Ja xl (h.below b3) (h'.below b3)) (by omega) (by decide)
 obtain ⟨t0, t1, t2, t3, t4, t5, -⟩ := ((Bg w #[.bool p, .slice A n c, .int .i64 e, .bool q, .slice A' n' c', .int .i64 f] 28).later (Ba (Bb _) (.cells #[.bool false, .slice none 0 0, .int .i64 0, .bool false, .slice none 0 0, .int .i64 0] 28))).cell6
 generalize Bx bad P [⟨p, A, n, c, xs, e, q, A', n', c', ys, f⟩] = tb at *
 have TK := Be TK
 clear xl
 cases tb
 ·have z1 := Jn (o := Ga q ys f)
  have z2 := Jn (o := Ga p xs e)
  have ho : Fn false (Ga q ys f) (Ga p xs e) = Cr (!((Ga q ys f).isSome && (Ga p xs e).isSome)) (Ci (Ga q ys f)) (Ci (Ga p xs e)) := rfl
  rw [ho]
  have D1 := fun w' (h2 : Arr w' A' n' c' ys) (hT2 : Tz w') => dneg q A' n' c' ys f w' h2
  have D2 := fun w' (h2 : Arr w' A n c xs) (hT2 : Tz w') => dneg p A n c xs e w' h2
  unfold He at D1 D2
  clear ho
  generalize (Ga q ys f).isSome = k1 at *
  generalize (Ga p xs e).isSome = k2 at *
  generalize Ci (Ga q ys f) = E1 at *
  generalize Ci (Ga p xs e) = E2 at *
  obtain ⟨s1, m1, f1⟩ := E1
  obtain ⟨s2, m2, f2⟩ := E2
  simp only at z1 z2 D1 D2
  have D1 := Be D1
  have D2 := Be D2
  have z1 := Be z1
  have z2 := Be z2
  go_enter Tryz.func39, Tryz.ntmps39
  go_wp2_with fail
  refine TK.out.mono ?_
  rintro r w7 ⟨rfl, hk7, g7⟩
  have xa7 := xa.grown g7 (show w.heap.size ≠ g by omega)
  have xr7 := xr.grown g7 (show w.heap.size + 1 ≠ g by omega)
  have gw7 := Bi (Bv b3 (some g)) g7
  have hA7 := hk.arr h gw7
  have hA7' := hk.arr h' gw7
  have hT7 := hk.tz hT gw7
  have R1 : ∀ w', w7.grownBy w' (some g) → Calls Tryz.prog 80 #[.agg #[.bool q, .slice A' n' c', .int .i64 f]] w' fun r w'' => ∃ A5 n5 c5, r = .returned (.tuple #[.agg #[.bool s1, .slice A5 n5 c5, .int .i64 f1], .bool k1]) ∧ Arr w'' A5 n5 c5 (wd m1) ∧ Below w'.heap.size w' w'' ∧ w7.grownBy w'' (some g) := by
   intro w' hG
   refine (D1.out w' (hk7.arr hA7' hG) (hk7.tz hT7 hG)).mono ?_
   rintro r w'' ⟨A5, n5, c5, rfl, h5, hb⟩
   exact ⟨A5, n5, c5, rfl, h5, hb, Bp hG hb⟩
  have R2 : ∀ w', w7.grownBy w' (some g) → Calls Tryz.prog 80 #[.agg #[.bool p, .slice A n c, .int .i64 e]] w' fun r w'' => ∃ A5 n5 c5, r = .returned (.tuple #[.agg #[.bool s2, .slice A5 n5 c5, .int .i64 f2], .bool k2]) ∧ Arr w'' A5 n5 c5 (wd m2) ∧ Below w'.heap.size w' w'' ∧ w7.grownBy w'' (some g) := by
   intro w' hG
   refine (D2.out w' (hk7.arr hA7 hG) (hk7.tz hT7 hG)).mono ?_
   rintro r w'' ⟨A5, n5, c5, rfl, h5, hb⟩
   exact ⟨A5, n5, c5, rfl, h5, hb, Bp hG hb⟩
  have M1 : ∀ A5 n5 c5 w' b, Wk w' g P b tw → Arr w' A5 n5 c5 (wd m1) → w7.grownBy w' (some g) → Calls Tryz.prog 43 #[.pointer (some ⟨g, 0, none⟩), .agg #[.bool s1, .slice A5 n5 c5, .int .i64 f1], .bool k1] w' fun r w'' => ∃ B k j, r = .returned (.agg #[.bool s1, .slice B k j, .int .i64 f1]) ∧ Arr w'' B k j (wd m1) ∧ Wk w'' g P (b || !k1) tw ∧ w'.grownBy w'' (some g) ∧ w7.grownBy w'' (some g) := by
   intro A5 n5 c5 w' b hk' ha hG
   refine (Sx g P b k1 s1 m1 f1 A5 n5 c5 w' hk' ha z1.out).mono ?_
   rintro r w'' ⟨B, k, j, rfl, hB, hk2, hg2⟩
   exact ⟨B, k, j, rfl, hB, hk2, hg2, Bi hG hg2⟩
  have M2 : ∀ A5 n5 c5 w' b, Wk w' g P b tw → Arr w' A5 n5 c5 (wd m2) → w7.grownBy w' (some g) → Calls Tryz.prog 43 #[.pointer (some ⟨g, 0, none⟩), .agg #[.bool s2, .slice A5 n5 c5, .int .i64 f2], .bool k2] w' fun r w'' => ∃ B k j, r = .returned (.agg #[.bool s2, .slice B k j, .int .i64 f2]) ∧ Arr w'' B k j (wd m2) ∧ Wk w'' g P (b || !k2) tw ∧ w'.grownBy w'' (some g) ∧ w7.grownBy w'' (some g) := by
   intro A5 n5 c5 w' b hk' ha hG
   refine (Sx g P b k2 s2 m2 f2 A5 n5 c5 w' hk' ha z2.out).mono ?_
   rintro r w'' ⟨B, k, j, rfl, hB, hk2, hg2⟩
   exact ⟨B, k, j, rfl, hB, hk2, hg2, Bi hG hg2⟩
  have GV : ∀ B1 x1 y1 B2 x2 y2 w' b, Wk w' g P b tw → Arr w' B1 x1 y1 (wd m1) → Arr w' B2 x2 y2 (wd m2) → w7.grownBy w' (some g) → Calls Tryz.prog 34 #[.pointer (some ⟨g, 0, none⟩), .agg #[.bool s1, .slice B1 x1 y1, .int .i64 f1], .agg #[.bool s2, .slice B2 x2 y2, .int .i64 f2]] w' fun r w'' => ∃ X u v Y k j, r = .returned (.agg #[.bool ((Cr b ⟨s1, m1, f1⟩ ⟨s2, m2, f2⟩).getD (Dy.zero, Dy.zero)).1.neg, .slice X u v, .int .i64 ((Cr b ⟨s1, m1, f1⟩ ⟨s2, m2, f2⟩).getD (Dy.zero, Dy.zero)).1.e, .bool ((Cr b ⟨s1, m1, f1⟩ ⟨s2, m2, f2⟩).getD (Dy.zero, Dy.zero)).2.neg, .slice Y k j, .int .i64 ((Cr b ⟨s1, m1, f1⟩ ⟨s2, m2, f2⟩).getD (Dy.zero, Dy.zero)).2.e]) ∧
   Arr w'' X u v (wd ((Cr b ⟨s1, m1, f1⟩ ⟨s2, m2, f2⟩).getD (Dy.zero, Dy.zero)).1.m) ∧ Arr w'' Y k j (wd ((Cr b ⟨s1, m1, f1⟩ ⟨s2, m2, f2⟩).getD (Dy.zero, Dy.zero)).2.m) ∧ Below w'.heap.size w' w'' ∧ w7.grownBy w'' (some g) := by
   intro B1 x1 y1 B2 x2 y2 w' b hk' ha hb hG
   refine (Yv g P b s1 s2 m1 f1 m2 f2 B1 B2 x1 y1 x2 y2 w' hk' ha hb).mono ?_
   rintro r w'' ⟨X, u, v, Y, k, j, rfl, hX, hY, hb2⟩
   exact ⟨X, u, v, Y, k, j, rfl, hX, hY, hb2, Bp hG hb2⟩
  have KC : ∀ w', w7.grownBy w' (some g) → (∃ b, Wk w' g P b tw) → ((w'.cell? ⟨w.heap.size, 0, none⟩ = some (.bool p) ∧ w'.cell? ⟨w.heap.size, 1, none⟩ = some (.slice A n c) ∧ w'.cell? ⟨w.heap.size, 2, none⟩ = some (.int .i64 e) ∧ w'.cell? ⟨w.heap.size, 3, none⟩ = some (.bool q) ∧ w'.cell? ⟨w.heap.size, 4, none⟩ = some (.slice A' n' c') ∧ w'.cell? ⟨w.heap.size, 5, none⟩ = some (.int .i64 f)) ∧ w'.cell? ⟨g, 0, none⟩ = some (.int .i64 P)) := by
   intro w' hG hb
   obtain ⟨b, hb⟩ := hb
   obtain ⟨z0, z1, z2, z3, z4, z5, -⟩ := (xa7.grown hG (show w.heap.size ≠ g by omega)).cell6
   exact ⟨⟨z0, z1, z2, z3, z4, z5⟩, hb.cells.1⟩
  have KC2 : ∀ w' b, w7.grownBy w' (some g) → Wk w' g P b tw → ∀ p1 B n1 c1 e1 q1 B' n2 c2 f1 W2, W2 = Xu w' (w.heap.size + 1) p1 B n1 c1 e1 q1 B' n2 c2 f1 → ((W2.cell? ⟨w.heap.size, 0, none⟩ = some (.bool p) ∧ W2.cell? ⟨w.heap.size, 1, none⟩ = some (.slice A n c) ∧ W2.cell? ⟨w.heap.size, 2, none⟩ = some (.int .i64 e) ∧ W2.cell? ⟨w.heap.size, 3, none⟩ = some (.bool q) ∧ W2.cell? ⟨w.heap.size, 4, none⟩ = some (.slice A' n' c') ∧ W2.cell? ⟨w.heap.size, 5, none⟩ = some (.int .i64 f)) ∧ W2.cell? ⟨g, 0, none⟩ = some (.int .i64 P)) := by
   rintro w' b hG hb p1 B n1 c1 e1 q1 B' n2 c2 f1 _ rfl
   have g6 := Gb w' (w.heap.size + 1) p1 B n1 c1 e1 q1 B' n2 c2 f1
   obtain ⟨z0, z1, z2, z3, z4, z5, -⟩ := ((xa7.grown hG (show w.heap.size ≠ g by omega)).grown g6 (show w.heap.size ≠ w.heap.size + 1 by omega)).cell6
   exact ⟨⟨z0, z1, z2, z3, z4, z5⟩, (hb.other g6 (show g ≠ w.heap.size + 1 by omega)).cells.1⟩
  have XR := fun w' (hG : w7.grownBy w' (some g)) => (xr7.grown hG (show w.heap.size + 1 ≠ g by omega)).cell6
  have FIN := fun w' b X u v Y k j (h1 : Arr w' X u v (wd ((Cr b ⟨s1, m1, f1⟩ ⟨s2, m2, f2⟩).getD (Dy.zero, Dy.zero)).1.m)) (h2 : Arr w' Y k j (wd ((Cr b ⟨s1, m1, f1⟩ ⟨s2, m2, f2⟩).getD (Dy.zero, Dy.zero)).2.m)) (hk' : Wk w' g P b tw) (hG : w7.grownBy w' (some g)) => Qv (w := w) (o := Cr b ⟨s1, m1, f1⟩ ⟨s2, m2, f2⟩) (P := P) (tw := tw) h1 h2 (xr7.grown hG (show w.heap.size + 1 ≠ g by omega)) (by rw [Gx]; exact hk') (Bi gw7 hG) (show g ≠ w.heap.size + 1 by omega) (by omega)
  have hG : w7.grownBy w7 (some g) := Do _ _
  obtain ⟨⟨j0, j1, j2, j3, j4, j5⟩, j6⟩ := KC w7 hG ⟨_, hk7⟩
  have KC := Be KC
  have KC2 := Be KC2
  have XR := Be XR
  have FIN := Be FIN
  have R1 := Be R1
  have R2 := Be R2
  have M1 := Be M1
  have M2 := Be M2
  have GV := Be GV
  have hk0 := hk
  have hk := hk7
  clear t0 t1 t2 t3 t4 t5 xa7 xr7 hA7 hA7' hT7 hk7 xa xr g7 gw7 b1 b2 b3 hk0 h h' hT hk3 TK D1 D2 z1 z2
  go_wp2_with fail
  go_region_held3 (fun w' => ((w'.cell? ⟨w.heap.size, 0, none⟩ = some (.bool p) ∧ w'.cell? ⟨w.heap.size, 1, none⟩ = some (.slice A n c) ∧ w'.cell? ⟨w.heap.size, 2, none⟩ = some (.int .i64 e) ∧ w'.cell? ⟨w.heap.size, 3, none⟩ = some (.bool q) ∧ w'.cell? ⟨w.heap.size, 4, none⟩ = some (.slice A' n' c') ∧ w'.cell? ⟨w.heap.size, 5, none⟩ = some (.int .i64 f)) ∧ w'.cell? ⟨g, 0, none⟩ = some (.int .i64 P))) (first | (refine KC.out _ ?_ ?_; (focus ((first | with_reducible exact hG | with_reducible exact Ce hG))); (first | with_reducible exact ⟨_, hk⟩ | with_reducible exact ⟨_, Wk.drew hk⟩); done) | (refine KC2.out _ _ ?_ hk _ _ _ _ _ _ _ _ _ _ _ rfl; ((first | with_reducible exact hG | with_reducible exact Ce hG)); done) | go_keep) (first | (go_at_call_of 80 (Value.agg #[Value.bool q, Value.slice A' n' c', Value.int IntKind.i64 f]); refine (R1.out _ ?_).mono ?_; ((first | with_reducible exact hG | with_reducible exact Ce hG)); rintro r w1 ⟨A1, n1, c1, rfl, a1, hc, hG⟩; (try have a2 := Arr.below (Arr.below a2 ((by repeat with_reducible (first | assumption | exact Bb _ | refine Bd ?_ _ | apply Below.drew | refine Ba ?_ _)))) hc); (try have b1 := Arr.below (Arr.below b1 ((by repeat with_reducible (first | assumption | exact Bb _ | refine Bd ?_ _ | apply Below.drew | refine Ba ?_ _)))) hc); (try have b2 := Arr.below (Arr.below b2 ((by repeat with_reducible (first | assumption | exact Bb _ | refine Bd ?_ _ | apply Below.drew | refine Ba ?_ _)))) hc); have hk := Wk.later (Wk.later hk ((by repeat with_reducible (first | assumption | exact Bb _ | refine Bd ?_ _ | apply Below.drew | refine Ba ?_ _)))) hc) | (go_at_call_of 80 (Value.agg #[Value.bool p, Value.slice A n c, Value.int IntKind.i64 e]); refine (R2.out _ ?_).mono ?_; ((first | with_reducible exact hG | with_reducible exact Ce hG)); rintro r w2 ⟨A2, n2, c2, rfl, a2, hc, hG⟩; (try have a1 := Arr.below (Arr.below a1 ((by repeat with_reducible (first | assumption | exact Bb _ | refine Bd ?_ _ | apply Below.drew | refine Ba ?_ _)))) hc); (try have b1 := Arr.below (Arr.below b1 ((by repeat with_reducible (first | assumption | exact Bb _ | refine Bd ?_ _ | apply Below.drew | refine Ba ?_ _)))) hc); (try have b2 := Arr.below (Arr.below b2 ((by repeat with_reducible (first | assumption | exact Bb _ | refine Bd ?_ _ | apply Below.drew | refine Ba ?_ _)))) hc); have hk := Wk.later (Wk.later hk ((by repeat with_reducible (first | assumption | exact Bb _ | refine Bd ?_ _ | apply Below.drew | refine Ba ?_ _)))) hc) | (go_at_call_of 43 (Value.bool k1); refine (M1.out _ _ _ _ _ (Wk.later hk ((by repeat with_reducible (first | assumption | exact Bb _ | refine Bd ?_ _ | apply Below.drew | refine Ba ?_ _)))) (Arr.below a1 ((by repeat with_reducible (first | assumption | exact Bb _ | refine Bd ?_ _ | apply Below.drew | refine Ba ?_ _)))) ?_).mono ?_; ((first | with_reducible exact hG | with_reducible exact Ce hG)); rintro r w3 ⟨B1, x1, y1, rfl, b1, hk3, hc, hG⟩; (try have a2 := Wk.arr (Wk.later hk ((by repeat with_reducible (first | assumption | exact Bb _ | refine Bd ?_ _ | apply Below.drew | refine Ba ?_ _)))) (Arr.below a2 ((by repeat with_reducible (first | assumption | exact Bb _ | refine Bd ?_ _ | apply Below.drew | refine Ba ?_ _)))) hc); (try have b2 := Wk.arr (Wk.later hk ((by repeat with_reducible (first | assumption | exact Bb _ | refine Bd ?_ _ | apply Below.drew | refine Ba ?_ _)))) (Arr.below b2 ((by repeat with_reducible (first | assumption | exact Bb _ | refine Bd ?_ _ | apply Below.drew | refine Ba ?_ _)))) hc); clear a1; have hk := hk3) | (go_at_call_of 43 (Value.bool k2); refine (M2.out _ _ _ _ _ (Wk.later hk ((by repeat with_reducible (first | assumption | exact Bb _ | refine Bd ?_ _ | apply Below.drew | refine Ba ?_ _)))) (Arr.below a2 ((by repeat with_reducible (first | assumption | exact Bb _ | refine Bd ?_ _ | apply Below.drew | refine Ba ?_ _)))) ?_).mono ?_; ((first | with_reducible exact hG | with_reducible exact Ce hG)); rintro r w4 ⟨B2, x2, y2, rfl, b2, hk4, hc, hG⟩; (try have a1 := Wk.arr (Wk.later hk ((by repeat with_reducible (first | assumption | exact Bb _ | refine Bd ?_ _ | apply Below.drew | refine Ba ?_ _)))) (Arr.below a1 ((by repeat with_reducible (first | assumption | exact Bb _ | refine Bd ?_ _ | apply Below.drew | refine Ba ?_ _)))) hc); (try have b1 := Wk.arr (Wk.later hk ((by repeat with_reducible (first | assumption | exact Bb _ | refine Bd ?_ _ | apply Below.drew | refine Ba ?_ _)))) (Arr.below b1 ((by repeat with_reducible (first | assumption | exact Bb _ | refine Bd ?_ _ | apply Below.drew | refine Ba ?_ _)))) hc); clear a2; have hk := hk4) | (go_at_call 34; refine (GV.out _ _ _ _ _ _ _ _ (Wk.later hk ((by repeat with_reducible (first | assumption | exact Bb _ | refine Bd ?_ _ | apply Below.drew | refine Ba ?_ _)))) (Arr.below b1 ((by repeat with_reducible (first | assumption | exact Bb _ | refine Bd ?_ _ | apply Below.drew | refine Ba ?_ _)))) (Arr.below b2 ((by repeat with_reducible (first | assumption | exact Bb _ | refine Bd ?_ _ | apply Below.drew | refine Ba ?_ _)))) ?_).mono ?_; ((first | with_reducible exact hG | with_reducible exact Ce hG)); rintro r w5 ⟨X1, i1, j1, X2, i2, j2, rfl, e1, e2, hc, hG⟩; have hk := Wk.later (Wk.later hk ((by repeat with_reducible (first | assumption | exact Bb _ | refine Bd ?_ _ | apply Below.drew | refine Ba ?_ _)))) hc; obtain ⟨u0, u1, u2, u3, u4, u5, u6⟩ := XR.out _ hG))
  all_goals
   cases k1 <;> cases k2
   all_goals
    go_wp2_with fail
    refine bodyPost_ret (v := _) ?_ rfl (FIN.out _ _ _ _ _ _ _ _ e1 e2 hk hG)
    simp [results, Tryz.results39, go_sem, u0, u1, u2, u3, u4, u5]
    try rfl
    try simp [Cr]
 ·have ho : Fn true (Ga q ys f) (Ga p xs e) = none := rfl
  rw [ho]
  go_enter Tryz.func39, Tryz.ntmps39
  go_wp2_with fail
  refine TK.out.mono ?_
  rintro r w7 ⟨rfl, hk7, g7⟩
  have xr7 := xr.grown g7 (show w.heap.size + 1 ≠ g by omega)
  have gw7 := Bi (Bv b3 (some g)) g7
  go_wp2_with (refine Bt rfl _ _ rfl rfl (w.heap.size + 1) false none 0 0 0 false none 0 0 0 xr7 rfl rfl (fun W1 y1 gW1 => ?_); have hk8 := hk7.other gW1 (show g ≠ w.heap.size + 1 by omega); obtain ⟨u0, u1, u2, u3, u4, u5, -⟩ := y1.cell6)
  refine bodyPost_ret (v := (.agg #[.bool false, .slice none 0 0, .int .i64 0, .bool false, .slice none 0 0, .int .i64 0])) ?_ rfl (Cl hk8 (Cd gw7 gW1 (by omega)))
  simp [results, Tryz.results39, go_sem, u0, u1, u2, u3, u4, u5]
def PlD (D : Dy) : Prop := Bq D.neg (wd D.m) D.e = true ∧ 0 ≤ D.m
theorem PlD.of {p : Bool} {xs : List Int} {e : Int} (hw : Wf xs) (h : Bq p xs e = true) : PlD ⟨p, val xs, e⟩ := by
 have := (Bm hw h).2.2.1
 refine ⟨?_, val_nonneg hw⟩
 show Bq p (wd (val xs)) e = true
 rw [this]; exact h
theorem PlD.zero : PlD Dy.zero := by
 refine ⟨?_, Int.le_refl _⟩
 show Bq false (wd 0) 0 = true
 rw [wd_zero (Int.le_refl _)]; rfl
theorem PlD.can {D : Dy} (h : PlD D) {L : Int} (hL : L ≤ D.e) : D = Ca (Fh D L) L := by
 obtain ⟨p, m, e⟩ := D
 obtain ⟨h1, h2⟩ := h
 have h1 : Bq p (wd m) e = true := h1
 have h2 : 0 ≤ m := h2
 have hL : L ≤ e := hL
 have hc := Bbu (wf_wd m h2) h1
 rw [val_wd _ h2] at hc
 have hs : Fh ⟨p, m, e⟩ L = sgn p m * pw (e - L).toNat := by
  show sgn p (m * pw (e - L).toNat) = _
  exact Se _ _ _
 rw [hs, Kl _ hL, ← hc]
theorem Bgk {a b : Dy} (ha : PlD a) (hb : PlD b) : cDy a b = Hf a b := by
 obtain ⟨p, m, e⟩ := a
 obtain ⟨q, k, f⟩ := b
 obtain ⟨h1, h2⟩ := ha
 obtain ⟨h3, h4⟩ := hb
 unfold cDy Dw
 rw [h1, h3, val_wd _ h2, val_wd _ h4]
 rfl
theorem Hw {x y L : Int} (hx : PlD (Ca x L)) (hy : PlD (Ca y L)) : cDy (Ca x L) (Ca y L) = Cs x y := by
 rw [Bgk hx hy, Bf5]
def Ls (most : Bool) (x y : Int) : Int := if most then max x y else min x y
theorem Tn {most : Bool} {x y L : Int} (hx : PlD (Ca x L)) (hy : PlD (Ca y L)) : Dn most (Ca x L) (Ca y L) = Ca (Ls most x y) L := by
 unfold Dn Ls
 rw [Hw hy hx]
 cases most
 ·simp only [Bool.false_eq_true, if_false, decide_eq_true_eq]
  unfold Cs
  by_cases h : y < x
  ·rw [if_pos (by rw [if_pos h]; decide)]; congr 1; omega
  ·rw [if_neg (by split <;> (try split) <;> omega)]; congr 1; omega
 ·simp only [if_true, decide_eq_true_eq]
  unfold Cs
  by_cases h : x < y
  ·rw [if_pos (by split <;> (try split) <;> omega)]; congr 1; omega
  ·rw [if_neg (by split <;> (try split) <;> omega)]; congr 1; omega
theorem Hi {most : Bool} {x y L : Int} (hx : PlD (Ca x L)) (hy : PlD (Ca y L)) : PlD (Ca (Ls most x y) L) := by
 have : Ls most x y = x ∨ Ls most x y = y := by unfold Ls; cases most <;> simp <;> omega
 rcases this with h | h <;> rw [h] <;> assumption
theorem Ws (a b c d : Int) : ∃ L, L ≤ a ∧ L ≤ b ∧ L ≤ c ∧ L ≤ d := ⟨min (min a b) (min c d), by omega⟩
theorem Wg {most : Bool} {x y z u L : Int} (hx : PlD (Ca x L)) (hy : PlD (Ca y L)) (hz : PlD (Ca z L)) (hu : PlD (Ca u L)) : Cy most (Ca x L) (Ca y L) (Ca z L) (Ca u L) = Ca (Ls most (Ls most (Ls most x y) z) u) L := by
 unfold Cy
 rw [Tn hx hy, Tn (Hi hx hy) hz, Tn (Hi (Hi hx hy) hz) hu]
theorem Bc2 {p q : Bool} {xs ys : List Int} {e f : Int} (hw : Wf xs) (hw' : Wf ys) (h : Cb p q xs ys e f = true) : PlD ⟨p, val xs, e⟩ ∧ PlD ⟨q, val ys, f⟩ ∧ cDy ⟨p, val xs, e⟩ ⟨q, val ys, f⟩ ≤ 0 := by
 unfold Cb Gj at h
 simp only [Bool.and_eq_true, decide_eq_true_eq] at h
 obtain ⟨⟨h1, h2⟩, h3⟩ := h
 refine ⟨PlD.of hw h1, PlD.of hw' h2, ?_⟩
 have v1 := (Bm hw h1).2.2.1
 have v2 := (Bm hw' h2).2.2.1
 show Dw p q (wd (val xs)) (wd (val ys)) e f ≤ 0
 rw [v1, v2]; exact h3
def SVal.six' (a : SVal) : Array Value := #[.bool a.p, .slice a.A a.n a.c, .int .i64 a.e, .bool a.q, .slice a.A' a.n' a.c', .int .i64 a.f]
structure Sq (w0 : World) (sa g h : Nat) (a : SVal) (P : Int) (b1 b2 : Bool) (w : World) : Prop where
 xa : Box w sa a.six' 28
 oa : a.ok w
 tz : Tz w
 v : Wk w g P b1 37
 r : Wk w h P b2 38
 nd : sa ≠ g ∧ sa ≠ h ∧ g ≠ h
 ge : w0.heap.size ≤ g ∧ w0.heap.size ≤ h
 below : Below w0.heap.size w0 w
section
variable {w0 : World} {sa g h : Nat} {a : SVal} {P : Int} {b1 b2 : Bool} {w w' : World}
theorem Sq.later (s : Sq w0 sa g h a P b1 b2 w) (hb : Below w.heap.size w w') : Sq w0 sa g h a P b1 b2 w' :=
 ⟨s.xa.later hb, ⟨s.oa.1.below hb, s.oa.2.below hb⟩, s.tz.below hb, s.v.later hb, s.r.later hb, s.nd, s.ge, Bc s.below hb⟩
theorem Sq.drew (s : Sq w0 sa g h a P b1 b2 w) : Sq w0 sa g h a P b1 b2 w.drew := s.later (Below.drew (Bb _))
theorem Sq.drewN {z : Nat} (s : Sq w0 sa g h a P b1 b2 w) : Sq w0 sa g h a P b1 b2 (w.drewN z) := s.later (Bd (Bb _) _)
theorem Vb {w0 w w' : World} {g : Nat} (h : Below w0.heap.size w0 w) (hg : w.grownBy w' (some g)) (hge : w0.heap.size ≤ g) : Below w0.heap.size w0 w' :=
 h.trans (Cf hg h.size (fun k hk => by cases hk; exact hge))
theorem Bg4 : ∀ (i : Nat) (x : Int), (#[.bool false, .slice none 0 0, .int .i64 0, .bool false, .slice none 0 0, .int .i64 0] : Array Value)[i]? ≠ some (Value.int .u64 x) :=
 no6 (by simp) (by simp) (by simp) (by simp) (by simp) (by simp)
theorem Sq.put {k : Nat} {t : TypeId} (s : Sq w0 sa g h a P b1 b2 w) (hb : Box w k #[.bool false, .slice none 0 0, .int .i64 0, .bool false, .slice none 0 0, .int .i64 0] t) (hg : w.grownBy w' (some k)) (hT : Tz w') (h0 : w0.heap.size ≤ k) (h1 : sa ≠ k) (h2 : g ≠ k) (h3 : h ≠ k) : Sq w0 sa g h a P b1 b2 w' :=
 ⟨s.xa.grown hg h1, ⟨s.oa.1.grown hb Bg4 hg, s.oa.2.grown hb Bg4 hg⟩, hT, s.v.other hg h2, s.r.other hg h3, s.nd, s.ge, Vb s.below hg h0⟩
end
theorem Qj (bad : Bool) (P : Int) (p q s t : Bool) (A A' B B' : Option Addr) (n c n' c' m k m' k' : Nat) (xs ys us vs : List Int) (e f i j : Int) : Bx bad P [(⟨p, A, n, c, xs, e, q, A', n', c', ys, f⟩ : SVal), (⟨s, B, m, k, us, i, t, B', m', k', vs, j⟩ : SVal)] = (bad || decide (P < 1) || decide (8192 < P) || !(Cb p q xs ys e f && Cb s t us vs i j)) := by
 unfold Bx SVal.right; simp
set_option maxRecDepth 100000
end Go.Proofs.YteffemhapnbaeaaGreatDoor
