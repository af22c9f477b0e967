/- A text of ours, with only what the claim's row needs (wip/tools/shake.py). -/
import Derived.Deep.RegionHeld3
import Derived.Test.YteffemhapnbaeaaGreatDoorNH
import Derived.Test.YteffemhapnbaeaaGreatDoorMW
namespace Go.Proofs.YteffemhapnbaeaaGreatDoor
open Go.RowKit Num
set_option linter.unusedSimpArgs false
set_option linter.unusedVariables false
set_option maxRecDepth 100000

theorem Arr.drewR {w : World} {A : Option Addr} {n c : Nat} {xs : List Int} (h : Arr w A n c xs) : Arr w.drew A n c xs := h.below (Below.drew (below_self _))
theorem Arr.drewRN {w : World} {z : Nat} {A : Option Addr} {n c : Nat} {xs : List Int} (h : Arr w A n c xs) : Arr (w.drewN z) A n c xs := h.below (below_drewN (below_self _) _)
theorem same_selfR (s t : Bool) (m1 f1 m2 f2 : Int) (A A' B B' : Option Addr) (n c n' c' m k m' k' : Nat) (w : World) (h : Arr w A n c (wd m1)) (h' : Arr w A' n' c' (wd m2)) (hB : Arr w B m k (wd m1)) (hB' : Arr w B' m' k' (wd m2)) :
    Calls Tryz.prog 11 #[.agg #[.bool s, .slice A n c, .int .i64 f1, .bool t, .slice A' n' c', .int .i64 f2], .agg #[.bool s, .slice B m k, .int .i64 f1, .bool t, .slice B' m' k', .int .i64 f2]] w fun r w' => r = .returned (.bool true) ∧ Below w.heap.size w w' := by
  have R := rsame03 s t s t A A' B B' n c n' c' m k m' k' (wd m1) (wd m2) (wd m1) (wd m2) f1 f2 f1 f2 w h h' hB hB'
  rw [sameS_self] at R
  exact R
theorem wpAnyH_monoR {P : Program} {md : Region.Mode} {ops : Array Oper} {Q : Exit → Act → World → Prop} {S S' : World → Prop} (h : ∀ w, S' w → S w) : ∀ (fuel : Nat) (listed : Array Bool) (a : Act) (w : World), wpAnyH P md ops Q S' fuel listed a w → wpAnyH P md ops Q S fuel listed a w
  | 0, _, _, _, hh => hh
  | fuel + 1, _, _, _, hh => ⟨hh.1, fun i hi => wpOp_mono (fun a' w' h' => ⟨h _ h'.1, wpAnyH_monoR h fuel _ a' w' h'.2⟩) (hh.2 i hi)⟩
theorem fewS_partsR {p q : Bool} {A A' : Option Addr} {n c n' c' : Nat} {xs ys : List Int} {e f : Int} (h : fewS ⟨p, A, n, c, xs, e, q, A', n', c', ys, f⟩ = true) : n ≤ 20 ∧ n' ≤ 20 ∧ -20000 ≤ e ∧ e ≤ 20000 ∧ -20000 ≤ f ∧ f ≤ 20000 := by
  unfold fewS fewD SVal.loV SVal.hiV at h
  simp only [Bool.and_eq_true, decide_eq_true_eq] at h
  obtain ⟨⟨⟨-, h1, h2⟩, -, h3, h4⟩, h5, h6⟩ := h
  exact ⟨h5, h6, h2, h1, h4, h3⟩
set_option maxHeartbeats 16000000 in
theorem spanSums (P : Int) (bad : Bool) (p q s t : Bool) (A A' B B' : Option Addr) (n c n' c' m k m' k' : Nat) (xs ys us vs : List Int) (e f i j : Int) (w : World) (h : Arr w A n c xs) (h' : Arr w A' n' c' ys) (hB : Arr w B m k us) (hB' : Arr w B' m' k' vs) (hT : Tz w) :
    Calls Tryz.prog 3 #[.agg #[.int .i64 P, .bool bad], (.agg #[.bool p, .slice A n c, .int .i64 e, .bool q, .slice A' n' c', .int .i64 f]), (.agg #[.bool s, .slice B m k, .int .i64 i, .bool t, .slice B' m' k', .int .i64 j])] w fun r w' => r = .returned (.bool true) ∧ Below w.heap.size w w' := by
  have z1 : (w.alloc (.cells #[.int .i64 P, .bool bad] 23)).heap.size = w.heap.size + 1 := by simp
  have z2 : ((w.alloc (.cells #[.int .i64 P, .bool bad] 23)).alloc (.cells #[.bool p, .slice A n c, .int .i64 e, .bool q, .slice A' n' c', .int .i64 f] 28)).heap.size = w.heap.size + 1 + 1 := by simp
  have hB0 : Below w.heap.size w (((w.alloc (.cells #[.int .i64 P, .bool bad] 23)).alloc (.cells #[.bool p, .slice A n c, .int .i64 e, .bool q, .slice A' n' c', .int .i64 f] 28)).alloc (.cells #[.bool s, .slice B m k, .int .i64 i, .bool t, .slice B' m' k', .int .i64 j] 28)) := below_alloc (below_alloc (below_alloc (below_self w) _) _) _
  have xk := (box_new w #[.int .i64 P, .bool bad] 23).later (below_alloc (below_alloc (below_self _) (.cells #[.bool p, .slice A n c, .int .i64 e, .bool q, .slice A' n' c', .int .i64 f] 28)) (.cells #[.bool s, .slice B m k, .int .i64 i, .bool t, .slice B' m' k', .int .i64 j] 28))
  have xa := (box_new (w.alloc (.cells #[.int .i64 P, .bool bad] 23)) #[.bool p, .slice A n c, .int .i64 e, .bool q, .slice A' n' c', .int .i64 f] 28).later (below_alloc (below_self _) (.cells #[.bool s, .slice B m k, .int .i64 i, .bool t, .slice B' m' k', .int .i64 j] 28))
  have xb := box_new ((w.alloc (.cells #[.int .i64 P, .bool bad] 23)).alloc (.cells #[.bool p, .slice A n c, .int .i64 e, .bool q, .slice A' n' c', .int .i64 f] 28)) #[.bool s, .slice B m k, .int .i64 i, .bool t, .slice B' m' k', .int .i64 j] 28
  rw [z1] at xa
  rw [z2] at xb
  have AW := Lib.hid (awake03 (((w.alloc (.cells #[.int .i64 P, .bool bad] 23)).alloc (.cells #[.bool p, .slice A n c, .int .i64 e, .bool q, .slice A' n' c', .int .i64 f] 28)).alloc (.cells #[.bool s, .slice B m k, .int .i64 i, .bool t, .slice B' m' k', .int .i64 j] 28)) (hT.below hB0))
  go_enter Tryz.func3, Tryz.ntmps3
  go_wp2_with fail
  refine AW.out.mono ?_
  rintro r w1 ⟨rfl, hb1⟩
  have hB1 := below_on hB0 hb1
  have xk1 := xk.later hb1
  have xa1 := xa.later hb1
  have xb1 := xb.later hb1
  obtain ⟨k0, k1, k2, k3, k4, k5, -⟩ := xa1.cell6
  obtain ⟨j0, j1, j2, j3, j4, j5, -⟩ := xb1.cell6
  have hB2 : Below w.heap.size w (w1.alloc (.cells #[.bool p, .slice A n c, .int .i64 e, .bool q, .slice A' n' c', .int .i64 f, .bool s, .slice B m k, .int .i64 i, .bool t, .slice B' m' k', .int .i64 j] 28)) := below_alloc hB1 _
  have FW := few03 w1.heap.size 2 [(⟨p, A, n, c, xs, e, q, A', n', c', ys, f⟩ : SVal), (⟨s, B, m, k, us, i, t, B', m', k', vs, j⟩ : SVal)] rfl (w1.alloc (.cells #[.bool p, .slice A n c, .int .i64 e, .bool q, .slice A' n' c', .int .i64 f, .bool s, .slice B m k, .int .i64 i, .bool t, .slice B' m' k', .int .i64 j] 28)) (svs_two (⟨p, A, n, c, xs, e, q, A', n', c', ys, f⟩ : SVal) (⟨s, B, m, k, us, i, t, B', m', k', vs, j⟩ : SVal) (box_new w1 _ 28) ⟨h.below hB2, h'.below hB2⟩ ⟨hB.below hB2, hB'.below hB2⟩) (by decide)
  have fa : [(⟨p, A, n, c, xs, e, q, A', n', c', ys, f⟩ : SVal), (⟨s, B, m, k, us, i, t, B', m', k', vs, j⟩ : SVal)].all fewS = true → fewS (⟨p, A, n, c, xs, e, q, A', n', c', ys, f⟩ : SVal) = true ∧ fewS (⟨s, B, m, k, us, i, t, B', m', k', vs, j⟩ : SVal) = true := fun hh => by simpa using hh
  generalize [(⟨p, A, n, c, xs, e, q, A', n', c', ys, f⟩ : SVal), (⟨s, B, m, k, us, i, t, B', m', k', vs, j⟩ : SVal)].all fewS = fb at *
  have FW := Lib.hid FW
  have FA := Lib.hid fa
  clear fa z1 z2
  cases fb
  · go_wp2_with fail
    refine FW.out.mono ?_
    rintro r w2 ⟨rfl, hb2⟩
    have hB3 := below_on hB2 hb2
    go_wp2_with fail
    go_ret
    exact ⟨rfl, hB3⟩
  · obtain ⟨fa, fb⟩ := FA.out rfl
    have FPA := fewS_partsR fa
    have FPB := fewS_partsR fb
    go_wp2_with fail
    refine FW.out.mono ?_
    rintro r w2 ⟨rfl, hb2⟩
    have hB3 := below_on hB2 hb2
    have xk2 := (xk1.later (below_alloc (below_self _) (.cells #[.bool p, .slice A n c, .int .i64 e, .bool q, .slice A' n' c', .int .i64 f, .bool s, .slice B m k, .int .i64 i, .bool t, .slice B' m' k', .int .i64 j] 28))).later hb2
    have xa2 := (xa1.later (below_alloc (below_self _) (.cells #[.bool p, .slice A n c, .int .i64 e, .bool q, .slice A' n' c', .int .i64 f, .bool s, .slice B m k, .int .i64 i, .bool t, .slice B' m' k', .int .i64 j] 28))).later hb2
    have xb2 := (xb1.later (below_alloc (below_self _) (.cells #[.bool p, .slice A n c, .int .i64 e, .bool q, .slice A' n' c', .int .i64 f, .bool s, .slice B m k, .int .i64 i, .bool t, .slice B' m' k', .int .i64 j] 28))).later hb2
    have KF := kitfit P bad w2
    have p0 := xk2.cell 0
    have p1 := xk2.cell 1
    clear k0 k1 k2 k3 k4 k5 j0 j1 j2 j3 j4 j5
    have hP0 : (decide (P ≤ 500) || decide (8192 < P)) = true → P ≤ 500 ∨ 8192 < P := fun hh => by simpa using hh
    generalize (decide (P ≤ 500) || decide (8192 < P)) = zf at KF hP0
    have KF := Lib.hid KF
    have HP0 := Lib.hid hP0
    clear hP0
    cases zf
    · go_wp2_with fail
      refine KF.out.mono ?_
      rintro r w3 ⟨rfl, hb3⟩
      have hB4 := below_on hB3 hb3
      go_wp2_with fail
      go_ret
      exact ⟨rfl, hB4⟩
    · have hP := HP0.out rfl
      have HP := Lib.hid hP
      clear hP HP0
      go_wp2_with fail
      refine KF.out.mono ?_
      rintro r w3 ⟨rfl, hb3⟩
      have hB4 := below_on hB3 hb3
      have xk3 := xk2.later hb3
      have xa3 := xa2.later hb3
      have xb3 := xb2.later hb3
      have p2 := xk3.cell 0
      have p3 := xk3.cell 1
      have KW := Lib.hid (fun w' => kitworks P bad w')
      clear p0 p1
      go_wp2_with fail
      refine (KW.out _).mono ?_
      rintro r w4 ⟨g1, h1, rfl, v4, r4, n4, lg1, lh1, hb4⟩
      have xk4 := xk3.later hb4
      have p4 := xk4.cell 0
      have p5 := xk4.cell 1
      clear p2 p3
      go_wp2_with fail
      refine (KW.out _).mono ?_
      rintro r w5 ⟨g2, h2, rfl, x5, y5, n5, lg2, lh2, hb5⟩
      have xk5 := xk4.later hb5
      have p6 := xk5.cell 0
      have p7 := xk5.cell 1
      clear p4 p5
      go_wp2_with fail
      refine (KW.out _).mono ?_
      rintro r w6 ⟨g3, h3, rfl, p8, q8, n8, lg3, lh3, hb6⟩
      have hB5 := below_on (below_on (below_on hB4 hb4) hb5) hb6
      have za := xa3.lt
      have zb := xb3.lt
      have zv := v4.lt
      have zr := r4.lt
      have zx := x5.lt
      have zy := y5.lt
      have hS : S6 w (w.heap.size + 1) (w.heap.size + 1 + 1) g1 h1 g2 h2 g3 h3 (⟨p, A, n, c, xs, e, q, A', n', c', ys, f⟩ : SVal) (⟨s, B, m, k, us, i, t, B', m', k', vs, j⟩ : SVal) P bad bad bad bad bad bad w6 := by
        have q1 := hB4.size
        have q2 := hb4.size
        have q3 := hb5.size
        refine ⟨((xa3.later hb4).later hb5).later hb6, ((xb3.later hb4).later hb5).later hb6, ⟨h.below hB5, h'.below hB5⟩, ⟨hB.below hB5, hB'.below hB5⟩, hT.below hB5, (v4.later hb5).later hb6, (r4.later hb5).later hb6, x5.later hb6, y5.later hb6, p8, q8, ?_, ?_, hB5⟩
        · simp
          omega
        · omega
      obtain ⟨hn, hn', e0, e1, f0, f1⟩ := FPA
      obtain ⟨hm, hm', i0, i1, j0, j1⟩ := FPB
      have hP := HP.out
      have ln := h.len
      have ln' := h'.len
      have lm := hB.len
      have lm' := hB'.len
      obtain ⟨s1, t1, z1, m1, F1, m2, F2, AV, AR⟩ := case_add (w0 := w) (sa := w.heap.size + 1) (sb := w.heap.size + 1 + 1) (g1 := g1) (h1 := h1) (g2 := g2) (h2 := h2) (g3 := g3) (h3 := h3) (p := p) (q := q) (s := s) (t := t) (A := A) (A' := A') (B := B) (B' := B') (n := n) (c := c) (n' := n') (c' := c') (m := m) (k := k) (m' := m') (k' := k') (bad := bad) h.wf h'.wf hB.wf hB'.wf (by omega) (by omega) (by omega) (by omega) ⟨e0, e1⟩ ⟨f0, f1⟩ ⟨i0, i1⟩ ⟨j0, j1⟩ hP
      obtain ⟨s2, t2, z2, m3, F3, m4, F4, BV, BR2⟩ := case_sub (w0 := w) (sa := w.heap.size + 1) (sb := w.heap.size + 1 + 1) (g1 := g1) (h1 := h1) (g2 := g2) (h2 := h2) (g3 := g3) (h3 := h3) (p := p) (q := q) (s := s) (t := t) (A := A) (A' := A') (B := B) (B' := B') (n := n) (c := c) (n' := n') (c' := c') (m := m) (k := k) (m' := m') (k' := k') (bad := bad) h.wf h'.wf hB.wf hB'.wf (by omega) (by omega) (by omega) (by omega) ⟨e0, e1⟩ ⟨f0, f1⟩ ⟨i0, i1⟩ ⟨j0, j1⟩ hP
      obtain ⟨s3, t3, z3, m5, F5, m6, F6, CV, CR⟩ := case_mul (w0 := w) (sa := w.heap.size + 1) (sb := w.heap.size + 1 + 1) (g1 := g1) (h1 := h1) (g2 := g2) (h2 := h2) (g3 := g3) (h3 := h3) (p := p) (q := q) (s := s) (t := t) (A := A) (A' := A') (B := B) (B' := B') (n := n) (c := c) (n' := n') (c' := c') (m := m) (k := k) (m' := m') (k' := k') (bad := bad) h.wf h'.wf hB.wf hB'.wf (by omega) (by omega) (by omega) (by omega) ⟨e0, e1⟩ ⟨f0, f1⟩ ⟨i0, i1⟩ ⟨j0, j1⟩ hP
      have KS : ∀ w' b1 b2 b3 b4 b5 b6, S6 w (w.heap.size + 1) (w.heap.size + 1 + 1) g1 h1 g2 h2 g3 h3 (⟨p, A, n, c, xs, e, q, A', n', c', ys, f⟩ : SVal) (⟨s, B, m, k, us, i, t, B', m', k', vs, j⟩ : SVal) P b1 b2 b3 b4 b5 b6 w' → ((w'.cell? ⟨w.heap.size + 1, 0, none⟩ = some (.bool p) ∧ w'.cell? ⟨w.heap.size + 1, 1, none⟩ = some (.slice A n c) ∧ w'.cell? ⟨w.heap.size + 1, 2, none⟩ = some (.int .i64 e) ∧ w'.cell? ⟨w.heap.size + 1, 3, none⟩ = some (.bool q) ∧ w'.cell? ⟨w.heap.size + 1, 4, none⟩ = some (.slice A' n' c') ∧ w'.cell? ⟨w.heap.size + 1, 5, none⟩ = some (.int .i64 f)) ∧ w'.cell? ⟨w.heap.size + 1 + 1, 0, none⟩ = some (.bool s) ∧ w'.cell? ⟨w.heap.size + 1 + 1, 1, none⟩ = some (.slice B m k) ∧ w'.cell? ⟨w.heap.size + 1 + 1, 2, none⟩ = some (.int .i64 i) ∧ w'.cell? ⟨w.heap.size + 1 + 1, 3, none⟩ = some (.bool t) ∧ w'.cell? ⟨w.heap.size + 1 + 1, 4, none⟩ = some (.slice B' m' k') ∧ w'.cell? ⟨w.heap.size + 1 + 1, 5, none⟩ = some (.int .i64 j)) := by
        intro w' b1 b2 b3 b4 b5 b6 h
        obtain ⟨z0, z1, z2, z3, z4, z5, -⟩ := h.xa.cell6
        obtain ⟨y0, y1, y2, y3, y4, y5, -⟩ := h.xb.cell6
        exact ⟨⟨z0, z1, z2, z3, z4, z5⟩, ⟨y0, y1, y2, y3, y4, y5⟩⟩
      have SM := fun s t m1 f1 m2 f2 A A' B B' n c n' c' m k m' k' w1 h h' hB hB' => same_selfR s t m1 f1 m2 f2 A A' B B' n c n' c' m k m' k' w1 h h' hB hB'
      have K1 : ∀ w' b3 b4 b5 b6, S6 w (w.heap.size + 1) (w.heap.size + 1 + 1) g1 h1 g2 h2 g3 h3 (⟨p, A, n, c, xs, e, q, A', n', c', ys, f⟩ : SVal) (⟨s, B, m, k, us, i, t, B', m', k', vs, j⟩ : SVal) P z1 z1 b3 b4 b5 b6 w' → (((w'.cell? ⟨w.heap.size + 1, 0, none⟩ = some (.bool p) ∧ w'.cell? ⟨w.heap.size + 1, 1, none⟩ = some (.slice A n c) ∧ w'.cell? ⟨w.heap.size + 1, 2, none⟩ = some (.int .i64 e) ∧ w'.cell? ⟨w.heap.size + 1, 3, none⟩ = some (.bool q) ∧ w'.cell? ⟨w.heap.size + 1, 4, none⟩ = some (.slice A' n' c') ∧ w'.cell? ⟨w.heap.size + 1, 5, none⟩ = some (.int .i64 f)) ∧ w'.cell? ⟨w.heap.size + 1 + 1, 0, none⟩ = some (.bool s) ∧ w'.cell? ⟨w.heap.size + 1 + 1, 1, none⟩ = some (.slice B m k) ∧ w'.cell? ⟨w.heap.size + 1 + 1, 2, none⟩ = some (.int .i64 i) ∧ w'.cell? ⟨w.heap.size + 1 + 1, 3, none⟩ = some (.bool t) ∧ w'.cell? ⟨w.heap.size + 1 + 1, 4, none⟩ = some (.slice B' m' k') ∧ w'.cell? ⟨w.heap.size + 1 + 1, 5, none⟩ = some (.int .i64 j)) ∧ w'.cell? ⟨g1, 1, none⟩ = some (.bool z1) ∧ w'.cell? ⟨h1, 1, none⟩ = some (.bool z1)) := fun w' b3 b4 b5 b6 h => ⟨KS w' _ _ _ _ _ _ h, h.v.cells.2.1, h.r.cells.2.1⟩
      have K2 : ∀ w' b5 b6, S6 w (w.heap.size + 1) (w.heap.size + 1 + 1) g1 h1 g2 h2 g3 h3 (⟨p, A, n, c, xs, e, q, A', n', c', ys, f⟩ : SVal) (⟨s, B, m, k, us, i, t, B', m', k', vs, j⟩ : SVal) P z1 z1 z2 z2 b5 b6 w' → ((((w'.cell? ⟨w.heap.size + 1, 0, none⟩ = some (.bool p) ∧ w'.cell? ⟨w.heap.size + 1, 1, none⟩ = some (.slice A n c) ∧ w'.cell? ⟨w.heap.size + 1, 2, none⟩ = some (.int .i64 e) ∧ w'.cell? ⟨w.heap.size + 1, 3, none⟩ = some (.bool q) ∧ w'.cell? ⟨w.heap.size + 1, 4, none⟩ = some (.slice A' n' c') ∧ w'.cell? ⟨w.heap.size + 1, 5, none⟩ = some (.int .i64 f)) ∧ w'.cell? ⟨w.heap.size + 1 + 1, 0, none⟩ = some (.bool s) ∧ w'.cell? ⟨w.heap.size + 1 + 1, 1, none⟩ = some (.slice B m k) ∧ w'.cell? ⟨w.heap.size + 1 + 1, 2, none⟩ = some (.int .i64 i) ∧ w'.cell? ⟨w.heap.size + 1 + 1, 3, none⟩ = some (.bool t) ∧ w'.cell? ⟨w.heap.size + 1 + 1, 4, none⟩ = some (.slice B' m' k') ∧ w'.cell? ⟨w.heap.size + 1 + 1, 5, none⟩ = some (.int .i64 j)) ∧ w'.cell? ⟨g1, 1, none⟩ = some (.bool z1) ∧ w'.cell? ⟨h1, 1, none⟩ = some (.bool z1)) ∧ w'.cell? ⟨g2, 1, none⟩ = some (.bool z2) ∧ w'.cell? ⟨h2, 1, none⟩ = some (.bool z2)) := fun w' b5 b6 h => ⟨K1 w' _ _ _ _ h, h.x.cells.2.1, h.y.cells.2.1⟩
      have K3 : ∀ w', S6 w (w.heap.size + 1) (w.heap.size + 1 + 1) g1 h1 g2 h2 g3 h3 (⟨p, A, n, c, xs, e, q, A', n', c', ys, f⟩ : SVal) (⟨s, B, m, k, us, i, t, B', m', k', vs, j⟩ : SVal) P z1 z1 z2 z2 z3 z3 w' → (((((w'.cell? ⟨w.heap.size + 1, 0, none⟩ = some (.bool p) ∧ w'.cell? ⟨w.heap.size + 1, 1, none⟩ = some (.slice A n c) ∧ w'.cell? ⟨w.heap.size + 1, 2, none⟩ = some (.int .i64 e) ∧ w'.cell? ⟨w.heap.size + 1, 3, none⟩ = some (.bool q) ∧ w'.cell? ⟨w.heap.size + 1, 4, none⟩ = some (.slice A' n' c') ∧ w'.cell? ⟨w.heap.size + 1, 5, none⟩ = some (.int .i64 f)) ∧ w'.cell? ⟨w.heap.size + 1 + 1, 0, none⟩ = some (.bool s) ∧ w'.cell? ⟨w.heap.size + 1 + 1, 1, none⟩ = some (.slice B m k) ∧ w'.cell? ⟨w.heap.size + 1 + 1, 2, none⟩ = some (.int .i64 i) ∧ w'.cell? ⟨w.heap.size + 1 + 1, 3, none⟩ = some (.bool t) ∧ w'.cell? ⟨w.heap.size + 1 + 1, 4, none⟩ = some (.slice B' m' k') ∧ w'.cell? ⟨w.heap.size + 1 + 1, 5, none⟩ = some (.int .i64 j)) ∧ w'.cell? ⟨g1, 1, none⟩ = some (.bool z1) ∧ w'.cell? ⟨h1, 1, none⟩ = some (.bool z1)) ∧ w'.cell? ⟨g2, 1, none⟩ = some (.bool z2) ∧ w'.cell? ⟨h2, 1, none⟩ = some (.bool z2)) ∧ w'.cell? ⟨g3, 1, none⟩ = some (.bool z3) ∧ w'.cell? ⟨h3, 1, none⟩ = some (.bool z3)) := fun w' h => ⟨K2 w' _ _ h, h.p.cells.2.1, h.q.cells.2.1⟩
      obtain ⟨⟨yy0, yy1, yy2, yy3, yy4, yy5⟩, ⟨yy6, yy7, yy8, yy9, yy10, yy11⟩⟩ := KS w6 _ _ _ _ _ _ hS
      have K1 := Lib.hid K1
      have K2 := Lib.hid K2
      have K3 := Lib.hid K3
      have KS := Lib.hid KS
      have SM := Lib.hid SM
      have AV := Lib.hid AV
      have AR := Lib.hid AR
      have BV := Lib.hid BV
      have BR2 := Lib.hid BR2
      have CV := Lib.hid CV
      have CR := Lib.hid CR
      clear xk xa xb xk1 xa1 xb1 xk2 xa2 xb2 xk3 xa3 xb3 xk4 xk5 v4 r4 x5 y5 p8 q8 FW AW FA KF KW fa fb h h' hB hB' hT p6 p7 hb1 hb2 hb3 hb4 hb5 hb6 hB0 hB1 hB2 hB3 hB4 hB5 hP HP ln ln' lm lm'
      go_wp2_with fail
      refine wp_region_noPanic ?_
      refine wp_region_held_drew (S := fun w' => ((w'.cell? ⟨w.heap.size + 1, 0, none⟩ = some (.bool p) ∧ w'.cell? ⟨w.heap.size + 1, 1, none⟩ = some (.slice A n c) ∧ w'.cell? ⟨w.heap.size + 1, 2, none⟩ = some (.int .i64 e) ∧ w'.cell? ⟨w.heap.size + 1, 3, none⟩ = some (.bool q) ∧ w'.cell? ⟨w.heap.size + 1, 4, none⟩ = some (.slice A' n' c') ∧ w'.cell? ⟨w.heap.size + 1, 5, none⟩ = some (.int .i64 f)) ∧ w'.cell? ⟨w.heap.size + 1 + 1, 0, none⟩ = some (.bool s) ∧ w'.cell? ⟨w.heap.size + 1 + 1, 1, none⟩ = some (.slice B m k) ∧ w'.cell? ⟨w.heap.size + 1 + 1, 2, none⟩ = some (.int .i64 i) ∧ w'.cell? ⟨w.heap.size + 1 + 1, 3, none⟩ = some (.bool t) ∧ w'.cell? ⟨w.heap.size + 1 + 1, 4, none⟩ = some (.slice B' m' k') ∧ w'.cell? ⟨w.heap.size + 1 + 1, 5, none⟩ = some (.int .i64 j))) (by kernel_rfl) (KS.out _ _ _ _ _ _ _ (S6.drew hS)) (fun hHeld => ?_)
      (refine wpAnyH_take (i := 0) (oi := ⟨some 40, _, _, _, _, _⟩) (v := ?_) rfl (by kernel_rfl) (by kernel_rfl) (by kernel_rfl) (fun _ _ _ h => h) (Or.inl ⟨by rfl, ?_⟩) (by assumption) ?_; rotate_left; (focus (intro w hSw; (try dsimp only at hSw); go_simp; (try with_reducible rfl))); (try simp only [Act.put, List.setIfInBounds_toArray, List.set_cons_zero, List.set_cons_succ]))
      (refine wpAnyH_take (i := 1) (oi := ⟨some 41, _, _, _, _, _⟩) (v := ?_) rfl (by kernel_rfl) (by kernel_rfl) (by kernel_rfl) (fun _ _ _ h => h) (Or.inl ⟨by rfl, ?_⟩) (by assumption) ?_; rotate_left; (focus (intro w hSw; (try dsimp only at hSw); go_simp; (try with_reducible rfl))); (try simp only [Act.put, List.setIfInBounds_toArray, List.set_cons_zero, List.set_cons_succ]))
      (refine wpAnyH_take (i := 2) (oi := ⟨some 42, _, _, _, _, _⟩) (v := ?_) rfl (by kernel_rfl) (by kernel_rfl) (by kernel_rfl) (fun _ _ _ h => h) (Or.inl ⟨by rfl, ?_⟩) (by assumption) ?_; rotate_left; (focus (intro w hSw; (try dsimp only at hSw); go_simp; (try with_reducible rfl))); (try simp only [Act.put, List.setIfInBounds_toArray, List.set_cons_zero, List.set_cons_succ]))
      (refine wpAnyH_take (i := 4) (oi := ⟨some 44, _, _, _, _, _⟩) (v := ?_) rfl (by kernel_rfl) (by kernel_rfl) (by kernel_rfl) (fun _ _ _ h => h) (Or.inl ⟨by rfl, ?_⟩) (by assumption) ?_; rotate_left; (focus (intro w hSw; (try dsimp only at hSw); go_simp; (try with_reducible rfl))); (try simp only [Act.put, List.setIfInBounds_toArray, List.set_cons_zero, List.set_cons_succ]))
      (refine wpAnyH_take (i := 5) (oi := ⟨some 45, _, _, _, _, _⟩) (v := ?_) rfl (by kernel_rfl) (by kernel_rfl) (by kernel_rfl) (fun _ _ _ h => h) (Or.inl ⟨by rfl, ?_⟩) (by assumption) ?_; rotate_left; (focus (intro w hSw; (try dsimp only at hSw); go_simp; (try with_reducible rfl))); (try simp only [Act.put, List.setIfInBounds_toArray, List.set_cons_zero, List.set_cons_succ]))
      (refine wpAnyH_take (i := 6) (oi := ⟨some 46, _, _, _, _, _⟩) (v := ?_) rfl (by kernel_rfl) (by kernel_rfl) (by kernel_rfl) (fun _ _ _ h => h) (Or.inl ⟨by rfl, ?_⟩) (by assumption) ?_; rotate_left; (focus (intro w hSw; (try dsimp only at hSw); go_simp; (try with_reducible rfl))); (try simp only [Act.put, List.setIfInBounds_toArray, List.set_cons_zero, List.set_cons_succ]))
      (refine wpAnyH_ready (rs := [3]) (by kernel_rfl) (by simp) ?_; refine AllReadyH.cons rfl (fun K hK => ?_) AllReadyH.nil; go_simp)
      (go_at_call 12; refine (AV.out _ _ _ _ _ _ (by (repeat (first | with_reducible exact hS | with_reducible apply S6.drew | with_reducible apply S6.drewN)))).mono ?_; rintro r w1 ⟨X1, n1, c1, Y1, u1, d1, rfl, x1, y1, hS, kp⟩)
      (refine hK.out _ _ (KS.out _ _ _ _ _ _ _ hS) (fun hHeld2 => ?_); clear hHeld hK K; have hHeld := hHeld2; clear hHeld2; (try simp only [Act.put, List.setIfInBounds_toArray, List.set_cons_zero, List.set_cons_succ]))
      (refine wpAnyH_ready (rs := [7]) (by kernel_rfl) (by simp) ?_; refine AllReadyH.cons rfl (fun K hK => ?_) AllReadyH.nil; go_simp)
      (go_at_call 13; refine (AR.out _ _ _ _ _ _ (by (repeat (first | with_reducible exact hS | with_reducible apply S6.drew | with_reducible apply S6.drewN)))).mono ?_; rintro r w2 ⟨X2, n2, c2, Y2, u2, d2, rfl, x2, y2, hS, kp⟩; (first | (have x1 := kp _ _ _ _ x1) | (have x1 := kp _ _ _ _ (Arr.drewR x1)) | (have x1 := kp _ _ _ _ (Arr.drewRN x1)) | skip); (first | (have y1 := kp _ _ _ _ y1) | (have y1 := kp _ _ _ _ (Arr.drewR y1)) | (have y1 := kp _ _ _ _ (Arr.drewRN y1)) | skip))
      (refine hK.out _ _ (KS.out _ _ _ _ _ _ _ hS) (fun hHeld2 => ?_); clear hHeld hK K; have hHeld := hHeld2; clear hHeld2; (try simp only [Act.put, List.setIfInBounds_toArray, List.set_cons_zero, List.set_cons_succ]))
      (refine wpAnyH_ready (rs := [8]) (by kernel_rfl) (by simp) ?_; refine AllReadyH.cons rfl (fun K hK => ?_) AllReadyH.nil; go_simp)
      (go_at_call 11; refine (SM.out _ _ _ _ _ _ _ _ _ _ _ _ _ _ _ _ _ _ _ (by first | exact x1 | exact Arr.drewR x1 | exact Arr.drewRN x1) (by first | exact y1 | exact Arr.drewR y1 | exact Arr.drewRN y1) (by first | exact x2 | exact Arr.drewR x2 | exact Arr.drewRN x2) (by first | exact y2 | exact Arr.drewR y2 | exact Arr.drewRN y2)).mono ?_; rintro r w13 ⟨rfl, hb⟩; have hS := S6.later (by (repeat (first | with_reducible exact hS | with_reducible apply S6.drew | with_reducible apply S6.drewN))) hb; clear x1 y1 x2 y2)
      (refine hK.out _ _ (KS.out _ _ _ _ _ _ _ hS) (fun hHeld2 => ?_); clear hHeld hK K; have hHeld := hHeld2; clear hHeld2; (try simp only [Act.put, List.setIfInBounds_toArray, List.set_cons_zero, List.set_cons_succ]))
      refine wpAnyH_monoR (S' := fun w' => (((w'.cell? ⟨w.heap.size + 1, 0, none⟩ = some (.bool p) ∧ w'.cell? ⟨w.heap.size + 1, 1, none⟩ = some (.slice A n c) ∧ w'.cell? ⟨w.heap.size + 1, 2, none⟩ = some (.int .i64 e) ∧ w'.cell? ⟨w.heap.size + 1, 3, none⟩ = some (.bool q) ∧ w'.cell? ⟨w.heap.size + 1, 4, none⟩ = some (.slice A' n' c') ∧ w'.cell? ⟨w.heap.size + 1, 5, none⟩ = some (.int .i64 f)) ∧ w'.cell? ⟨w.heap.size + 1 + 1, 0, none⟩ = some (.bool s) ∧ w'.cell? ⟨w.heap.size + 1 + 1, 1, none⟩ = some (.slice B m k) ∧ w'.cell? ⟨w.heap.size + 1 + 1, 2, none⟩ = some (.int .i64 i) ∧ w'.cell? ⟨w.heap.size + 1 + 1, 3, none⟩ = some (.bool t) ∧ w'.cell? ⟨w.heap.size + 1 + 1, 4, none⟩ = some (.slice B' m' k') ∧ w'.cell? ⟨w.heap.size + 1 + 1, 5, none⟩ = some (.int .i64 j)) ∧ w'.cell? ⟨g1, 1, none⟩ = some (.bool z1) ∧ w'.cell? ⟨h1, 1, none⟩ = some (.bool z1))) (fun w' h => h.1) _ _ _ _ ?_
      clear hHeld
      have hHeld := K1.out _ _ _ _ _ hS
      (refine wpAnyH_take (i := 9) (oi := ⟨some 49, _, _, _, _, _⟩) (v := ?_) rfl (by kernel_rfl) (by kernel_rfl) (by kernel_rfl) (fun _ _ _ h => h) (Or.inl ⟨by rfl, ?_⟩) (by assumption) ?_; rotate_left; (focus (intro w hSw; (try dsimp only at hSw); go_simp; (try with_reducible rfl))); (try simp only [Act.put, List.setIfInBounds_toArray, List.set_cons_zero, List.set_cons_succ]))
      (refine wpAnyH_take (i := 10) (oi := ⟨some 50, _, _, _, _, _⟩) (v := ?_) rfl (by kernel_rfl) (by kernel_rfl) (by kernel_rfl) (fun _ _ _ h => h) (Or.inl ⟨by rfl, ?_⟩) (by assumption) ?_; rotate_left; (focus (intro w hSw; (try dsimp only at hSw); go_simp; (try with_reducible rfl))); (try simp only [Act.put, List.setIfInBounds_toArray, List.set_cons_zero, List.set_cons_succ]))
      (refine wpAnyH_take (i := 11) (oi := ⟨some 51, _, _, _, _, _⟩) (v := ?_) rfl (by kernel_rfl) (by kernel_rfl) (by kernel_rfl) (fun _ _ _ h => h) (Or.inl ⟨by rfl, ?_⟩) (by assumption) ?_; rotate_left; (focus (intro w hSw; (try dsimp only at hSw); go_simp; (try with_reducible rfl))); (try simp only [Act.put, List.setIfInBounds_toArray, List.set_cons_zero, List.set_cons_succ]))
      (refine wpAnyH_take (i := 12) (oi := ⟨some 52, _, _, _, _, _⟩) (v := ?_) rfl (by kernel_rfl) (by kernel_rfl) (by kernel_rfl) (fun _ _ _ h => h) (Or.inl ⟨by rfl, ?_⟩) (by assumption) ?_; rotate_left; (focus (intro w hSw; (try dsimp only at hSw); go_simp; (try with_reducible rfl))); (try simp only [Act.put, List.setIfInBounds_toArray, List.set_cons_zero, List.set_cons_succ]))
      (refine wpAnyH_take (i := 13) (oi := ⟨some 53, _, _, _, _, _⟩) (v := ?_) rfl (by kernel_rfl) (by kernel_rfl) (by kernel_rfl) (fun _ _ _ h => h) (Or.inl ⟨by rfl, ?_⟩) (by assumption) ?_; rotate_left; (focus (intro w hSw; (try dsimp only at hSw); go_simp; (try with_reducible rfl))); (try simp only [Act.put, List.setIfInBounds_toArray, List.set_cons_zero, List.set_cons_succ]))
      (refine wpAnyH_take (i := 14) (oi := ⟨some 54, _, _, _, _, _⟩) (v := ?_) rfl (by kernel_rfl) (by kernel_rfl) (by kernel_rfl) (fun _ _ _ h => h) (Or.inl ⟨by rfl, ?_⟩) (by assumption) ?_; rotate_left; (focus (intro w hSw; (try dsimp only at hSw); go_simp; (try with_reducible rfl))); (try simp only [Act.put, List.setIfInBounds_toArray, List.set_cons_zero, List.set_cons_succ]))
      (refine wpAnyH_take (i := 15) (oi := ⟨some 55, _, _, _, _, _⟩) (v := ?_) rfl (by kernel_rfl) (by kernel_rfl) (by kernel_rfl) (fun _ _ _ h => h) (Or.inl ⟨by rfl, ?_⟩) (by assumption) ?_; rotate_left; (focus (intro w hSw; (try dsimp only at hSw); go_simp; (try with_reducible rfl))); (try simp only [Act.put, List.setIfInBounds_toArray, List.set_cons_zero, List.set_cons_succ]))
      (refine wpAnyH_take (i := 16) (oi := ⟨some 56, _, _, _, _, _⟩) (v := ?_) rfl (by kernel_rfl) (by kernel_rfl) (by kernel_rfl) (fun _ _ _ h => h) (Or.inl ⟨by rfl, ?_⟩) (by assumption) ?_; rotate_left; (focus (intro w hSw; (try dsimp only at hSw); go_simp; (try with_reducible rfl))); (try simp only [Act.put, List.setIfInBounds_toArray, List.set_cons_zero, List.set_cons_succ]))
      (refine wpAnyH_take (i := 17) (oi := ⟨some 57, _, _, _, _, _⟩) (v := ?_) rfl (by kernel_rfl) (by kernel_rfl) (by kernel_rfl) (fun _ _ _ h => h) (Or.inl ⟨by rfl, ?_⟩) (by assumption) ?_; rotate_left; (focus (intro w hSw; (try dsimp only at hSw); go_simp; (try with_reducible rfl))); (try simp only [Act.put, List.setIfInBounds_toArray, List.set_cons_zero, List.set_cons_succ]))
      (refine wpAnyH_take (i := 18) (oi := ⟨some 58, _, _, _, _, _⟩) (v := ?_) rfl (by kernel_rfl) (by kernel_rfl) (by kernel_rfl) (fun _ _ _ h => h) (Or.inl ⟨by rfl, ?_⟩) (by assumption) ?_; rotate_left; (focus (intro w hSw; (try dsimp only at hSw); go_simp; (try with_reducible rfl))); (try simp only [Act.put, List.setIfInBounds_toArray, List.set_cons_zero, List.set_cons_succ]))
      (refine wpAnyH_take (i := 19) (oi := ⟨some 59, _, _, _, _, _⟩) (v := ?_) rfl (by kernel_rfl) (by kernel_rfl) (by kernel_rfl) (fun _ _ _ h => h) (Or.inl ⟨by rfl, ?_⟩) (by assumption) ?_; rotate_left; (focus (intro w hSw; (try dsimp only at hSw); go_simp; (try with_reducible rfl))); (try simp only [Act.put, List.setIfInBounds_toArray, List.set_cons_zero, List.set_cons_succ]))
      (refine wpAnyH_take (i := 20) (oi := ⟨some 60, _, _, _, _, _⟩) (v := ?_) rfl (by kernel_rfl) (by kernel_rfl) (by kernel_rfl) (fun _ _ _ h => h) (Or.inl ⟨by rfl, ?_⟩) (by assumption) ?_; rotate_left; (focus (intro w hSw; (try dsimp only at hSw); go_simp; (try with_reducible rfl))); (try simp only [Act.put, List.setIfInBounds_toArray, List.set_cons_zero, List.set_cons_succ]))
      (refine wpAnyH_take (i := 21) (oi := ⟨some 61, _, _, _, _, _⟩) (v := ?_) rfl (by kernel_rfl) (by kernel_rfl) (by kernel_rfl) (fun _ _ _ h => h) (Or.inl ⟨by rfl, ?_⟩) (by assumption) ?_; rotate_left; (focus (intro w hSw; (try dsimp only at hSw); go_simp; (try with_reducible rfl))); (try simp only [Act.put, List.setIfInBounds_toArray, List.set_cons_zero, List.set_cons_succ]))
      (refine wpAnyH_take (i := 22) (oi := ⟨some 62, _, _, _, _, _⟩) (v := ?_) rfl (by kernel_rfl) (by kernel_rfl) (by kernel_rfl) (fun _ _ _ h => h) (Or.inl ⟨by rfl, ?_⟩) (by assumption) ?_; rotate_left; (focus (intro w hSw; (try dsimp only at hSw); go_simp; (try with_reducible rfl))); (try simp only [Act.put, List.setIfInBounds_toArray, List.set_cons_zero, List.set_cons_succ]))
      (refine wpAnyH_take (i := 23) (oi := ⟨some 63, _, _, _, _, _⟩) (v := ?_) rfl (by kernel_rfl) (by kernel_rfl) (by kernel_rfl) (fun _ _ _ h => h) (Or.inl ⟨by rfl, ?_⟩) (by assumption) ?_; rotate_left; (focus (intro w hSw; (try dsimp only at hSw); go_simp; (try with_reducible rfl))); (try simp only [Act.put, List.setIfInBounds_toArray, List.set_cons_zero, List.set_cons_succ]))
      (refine wpAnyH_take (i := 25) (oi := ⟨some 65, _, _, _, _, _⟩) (v := ?_) rfl (by kernel_rfl) (by kernel_rfl) (by kernel_rfl) (fun _ _ _ h => h) (Or.inl ⟨by rfl, ?_⟩) (by assumption) ?_; rotate_left; (focus (intro w hSw; (try dsimp only at hSw); go_simp; (try with_reducible rfl))); (try simp only [Act.put, List.setIfInBounds_toArray, List.set_cons_zero, List.set_cons_succ]))
      (refine wpAnyH_take (i := 26) (oi := ⟨some 66, _, _, _, _, _⟩) (v := ?_) rfl (by kernel_rfl) (by kernel_rfl) (by kernel_rfl) (fun _ _ _ h => h) (Or.inl ⟨by rfl, ?_⟩) (by assumption) ?_; rotate_left; (focus (intro w hSw; (try dsimp only at hSw); go_simp; (try with_reducible rfl))); (try simp only [Act.put, List.setIfInBounds_toArray, List.set_cons_zero, List.set_cons_succ]))
      (refine wpAnyH_take (i := 27) (oi := ⟨some 67, _, _, _, _, _⟩) (v := ?_) rfl (by kernel_rfl) (by kernel_rfl) (by kernel_rfl) (fun _ _ _ h => h) (Or.inl ⟨by rfl, ?_⟩) (by assumption) ?_; rotate_left; (focus (intro w hSw; (try dsimp only at hSw); go_simp; (try with_reducible rfl))); (try simp only [Act.put, List.setIfInBounds_toArray, List.set_cons_zero, List.set_cons_succ]))
      (refine wpAnyH_ready (rs := [24]) (by kernel_rfl) (by simp) ?_; refine AllReadyH.cons rfl (fun K hK => ?_) AllReadyH.nil; go_simp)
      (go_at_call 14; refine (BV.out _ _ _ _ _ _ (by (repeat (first | with_reducible exact hS | with_reducible apply S6.drew | with_reducible apply S6.drewN)))).mono ?_; rintro r w4 ⟨X4, n4, c4, Y4, u4, d4, rfl, x3, y3, hS, kp⟩)
      (refine hK.out _ _ (K1.out _ _ _ _ _ hS) (fun hHeld2 => ?_); clear hHeld hK K; have hHeld := hHeld2; clear hHeld2; (try simp only [Act.put, List.setIfInBounds_toArray, List.set_cons_zero, List.set_cons_succ]))
      (refine wpAnyH_ready (rs := [28]) (by kernel_rfl) (by simp) ?_; refine AllReadyH.cons rfl (fun K hK => ?_) AllReadyH.nil; go_simp)
      (go_at_call 15; refine (BR2.out _ _ _ _ _ _ (by (repeat (first | with_reducible exact hS | with_reducible apply S6.drew | with_reducible apply S6.drewN)))).mono ?_; rintro r w5 ⟨X5, n5, c5, Y5, u5, d5, rfl, x4, y4, hS, kp⟩; (first | (have x3 := kp _ _ _ _ x3) | (have x3 := kp _ _ _ _ (Arr.drewR x3)) | (have x3 := kp _ _ _ _ (Arr.drewRN x3)) | skip); (first | (have y3 := kp _ _ _ _ y3) | (have y3 := kp _ _ _ _ (Arr.drewR y3)) | (have y3 := kp _ _ _ _ (Arr.drewRN y3)) | skip))
      (refine hK.out _ _ (K1.out _ _ _ _ _ hS) (fun hHeld2 => ?_); clear hHeld hK K; have hHeld := hHeld2; clear hHeld2; (try simp only [Act.put, List.setIfInBounds_toArray, List.set_cons_zero, List.set_cons_succ]))
      (refine wpAnyH_ready (rs := [29]) (by kernel_rfl) (by simp) ?_; refine AllReadyH.cons rfl (fun K hK => ?_) AllReadyH.nil; go_simp)
      (go_at_call 11; refine (SM.out _ _ _ _ _ _ _ _ _ _ _ _ _ _ _ _ _ _ _ (by first | exact x3 | exact Arr.drewR x3 | exact Arr.drewRN x3) (by first | exact y3 | exact Arr.drewR y3 | exact Arr.drewRN y3) (by first | exact x4 | exact Arr.drewR x4 | exact Arr.drewRN x4) (by first | exact y4 | exact Arr.drewR y4 | exact Arr.drewRN y4)).mono ?_; rintro r w16 ⟨rfl, hb⟩; have hS := S6.later (by (repeat (first | with_reducible exact hS | with_reducible apply S6.drew | with_reducible apply S6.drewN))) hb; clear x3 y3 x4 y4)
      (refine hK.out _ _ (K1.out _ _ _ _ _ hS) (fun hHeld2 => ?_); clear hHeld hK K; have hHeld := hHeld2; clear hHeld2; (try simp only [Act.put, List.setIfInBounds_toArray, List.set_cons_zero, List.set_cons_succ]))
      refine wpAnyH_monoR (S' := fun w' => ((((w'.cell? ⟨w.heap.size + 1, 0, none⟩ = some (.bool p) ∧ w'.cell? ⟨w.heap.size + 1, 1, none⟩ = some (.slice A n c) ∧ w'.cell? ⟨w.heap.size + 1, 2, none⟩ = some (.int .i64 e) ∧ w'.cell? ⟨w.heap.size + 1, 3, none⟩ = some (.bool q) ∧ w'.cell? ⟨w.heap.size + 1, 4, none⟩ = some (.slice A' n' c') ∧ w'.cell? ⟨w.heap.size + 1, 5, none⟩ = some (.int .i64 f)) ∧ w'.cell? ⟨w.heap.size + 1 + 1, 0, none⟩ = some (.bool s) ∧ w'.cell? ⟨w.heap.size + 1 + 1, 1, none⟩ = some (.slice B m k) ∧ w'.cell? ⟨w.heap.size + 1 + 1, 2, none⟩ = some (.int .i64 i) ∧ w'.cell? ⟨w.heap.size + 1 + 1, 3, none⟩ = some (.bool t) ∧ w'.cell? ⟨w.heap.size + 1 + 1, 4, none⟩ = some (.slice B' m' k') ∧ w'.cell? ⟨w.heap.size + 1 + 1, 5, none⟩ = some (.int .i64 j)) ∧ w'.cell? ⟨g1, 1, none⟩ = some (.bool z1) ∧ w'.cell? ⟨h1, 1, none⟩ = some (.bool z1)) ∧ w'.cell? ⟨g2, 1, none⟩ = some (.bool z2) ∧ w'.cell? ⟨h2, 1, none⟩ = some (.bool z2))) (fun w' h => h.1) _ _ _ _ ?_
      clear hHeld
      have hHeld := K2.out _ _ _ hS
      (refine wpAnyH_take (i := 30) (oi := ⟨some 70, _, _, _, _, _⟩) (v := ?_) rfl (by kernel_rfl) (by kernel_rfl) (by kernel_rfl) (fun _ _ _ h => h) (Or.inl ⟨by rfl, ?_⟩) (by assumption) ?_; rotate_left; (focus (intro w hSw; (try dsimp only at hSw); go_simp; (try with_reducible rfl))); (try simp only [Act.put, List.setIfInBounds_toArray, List.set_cons_zero, List.set_cons_succ]))
      (refine wpAnyH_take (i := 31) (oi := ⟨some 71, _, _, _, _, _⟩) (v := ?_) rfl (by kernel_rfl) (by kernel_rfl) (by kernel_rfl) (fun _ _ _ h => h) (Or.inl ⟨by rfl, ?_⟩) (by assumption) ?_; rotate_left; (focus (intro w hSw; (try dsimp only at hSw); go_simp; (try with_reducible rfl))); (try simp only [Act.put, List.setIfInBounds_toArray, List.set_cons_zero, List.set_cons_succ]))
      (refine wpAnyH_take (i := 32) (oi := ⟨some 72, _, _, _, _, _⟩) (v := ?_) rfl (by kernel_rfl) (by kernel_rfl) (by kernel_rfl) (fun _ _ _ h => h) (Or.inl ⟨by rfl, ?_⟩) (by assumption) ?_; rotate_left; (focus (intro w hSw; (try dsimp only at hSw); go_simp; (try with_reducible rfl))); (try simp only [Act.put, List.setIfInBounds_toArray, List.set_cons_zero, List.set_cons_succ]))
      (refine wpAnyH_take (i := 33) (oi := ⟨some 73, _, _, _, _, _⟩) (v := ?_) rfl (by kernel_rfl) (by kernel_rfl) (by kernel_rfl) (fun _ _ _ h => h) (Or.inl ⟨by rfl, ?_⟩) (by assumption) ?_; rotate_left; (focus (intro w hSw; (try dsimp only at hSw); go_simp; (try with_reducible rfl))); (try simp only [Act.put, List.setIfInBounds_toArray, List.set_cons_zero, List.set_cons_succ]))
      (refine wpAnyH_take (i := 34) (oi := ⟨some 74, _, _, _, _, _⟩) (v := ?_) rfl (by kernel_rfl) (by kernel_rfl) (by kernel_rfl) (fun _ _ _ h => h) (Or.inl ⟨by rfl, ?_⟩) (by assumption) ?_; rotate_left; (focus (intro w hSw; (try dsimp only at hSw); go_simp; (try with_reducible rfl))); (try simp only [Act.put, List.setIfInBounds_toArray, List.set_cons_zero, List.set_cons_succ]))
      (refine wpAnyH_take (i := 35) (oi := ⟨some 75, _, _, _, _, _⟩) (v := ?_) rfl (by kernel_rfl) (by kernel_rfl) (by kernel_rfl) (fun _ _ _ h => h) (Or.inl ⟨by rfl, ?_⟩) (by assumption) ?_; rotate_left; (focus (intro w hSw; (try dsimp only at hSw); go_simp; (try with_reducible rfl))); (try simp only [Act.put, List.setIfInBounds_toArray, List.set_cons_zero, List.set_cons_succ]))
      (refine wpAnyH_take (i := 36) (oi := ⟨some 76, _, _, _, _, _⟩) (v := ?_) rfl (by kernel_rfl) (by kernel_rfl) (by kernel_rfl) (fun _ _ _ h => h) (Or.inl ⟨by rfl, ?_⟩) (by assumption) ?_; rotate_left; (focus (intro w hSw; (try dsimp only at hSw); go_simp; (try with_reducible rfl))); (try simp only [Act.put, List.setIfInBounds_toArray, List.set_cons_zero, List.set_cons_succ]))
      (refine wpAnyH_take (i := 37) (oi := ⟨some 77, _, _, _, _, _⟩) (v := ?_) rfl (by kernel_rfl) (by kernel_rfl) (by kernel_rfl) (fun _ _ _ h => h) (Or.inl ⟨by rfl, ?_⟩) (by assumption) ?_; rotate_left; (focus (intro w hSw; (try dsimp only at hSw); go_simp; (try with_reducible rfl))); (try simp only [Act.put, List.setIfInBounds_toArray, List.set_cons_zero, List.set_cons_succ]))
      (refine wpAnyH_take (i := 38) (oi := ⟨some 78, _, _, _, _, _⟩) (v := ?_) rfl (by kernel_rfl) (by kernel_rfl) (by kernel_rfl) (fun _ _ _ h => h) (Or.inl ⟨by rfl, ?_⟩) (by assumption) ?_; rotate_left; (focus (intro w hSw; (try dsimp only at hSw); go_simp; (try with_reducible rfl))); (try simp only [Act.put, List.setIfInBounds_toArray, List.set_cons_zero, List.set_cons_succ]))
      (refine wpAnyH_take (i := 39) (oi := ⟨some 79, _, _, _, _, _⟩) (v := ?_) rfl (by kernel_rfl) (by kernel_rfl) (by kernel_rfl) (fun _ _ _ h => h) (Or.inl ⟨by rfl, ?_⟩) (by assumption) ?_; rotate_left; (focus (intro w hSw; (try dsimp only at hSw); go_simp; (try with_reducible rfl))); (try simp only [Act.put, List.setIfInBounds_toArray, List.set_cons_zero, List.set_cons_succ]))
      (refine wpAnyH_take (i := 40) (oi := ⟨some 80, _, _, _, _, _⟩) (v := ?_) rfl (by kernel_rfl) (by kernel_rfl) (by kernel_rfl) (fun _ _ _ h => h) (Or.inl ⟨by rfl, ?_⟩) (by assumption) ?_; rotate_left; (focus (intro w hSw; (try dsimp only at hSw); go_simp; (try with_reducible rfl))); (try simp only [Act.put, List.setIfInBounds_toArray, List.set_cons_zero, List.set_cons_succ]))
      (refine wpAnyH_take (i := 41) (oi := ⟨some 81, _, _, _, _, _⟩) (v := ?_) rfl (by kernel_rfl) (by kernel_rfl) (by kernel_rfl) (fun _ _ _ h => h) (Or.inl ⟨by rfl, ?_⟩) (by assumption) ?_; rotate_left; (focus (intro w hSw; (try dsimp only at hSw); go_simp; (try with_reducible rfl))); (try simp only [Act.put, List.setIfInBounds_toArray, List.set_cons_zero, List.set_cons_succ]))
      (refine wpAnyH_take (i := 42) (oi := ⟨some 82, _, _, _, _, _⟩) (v := ?_) rfl (by kernel_rfl) (by kernel_rfl) (by kernel_rfl) (fun _ _ _ h => h) (Or.inl ⟨by rfl, ?_⟩) (by assumption) ?_; rotate_left; (focus (intro w hSw; (try dsimp only at hSw); go_simp; (try with_reducible rfl))); (try simp only [Act.put, List.setIfInBounds_toArray, List.set_cons_zero, List.set_cons_succ]))
      (refine wpAnyH_take (i := 43) (oi := ⟨some 83, _, _, _, _, _⟩) (v := ?_) rfl (by kernel_rfl) (by kernel_rfl) (by kernel_rfl) (fun _ _ _ h => h) (Or.inl ⟨by rfl, ?_⟩) (by assumption) ?_; rotate_left; (focus (intro w hSw; (try dsimp only at hSw); go_simp; (try with_reducible rfl))); (try simp only [Act.put, List.setIfInBounds_toArray, List.set_cons_zero, List.set_cons_succ]))
      (refine wpAnyH_take (i := 44) (oi := ⟨some 84, _, _, _, _, _⟩) (v := ?_) rfl (by kernel_rfl) (by kernel_rfl) (by kernel_rfl) (fun _ _ _ h => h) (Or.inl ⟨by rfl, ?_⟩) (by assumption) ?_; rotate_left; (focus (intro w hSw; (try dsimp only at hSw); go_simp; (try with_reducible rfl))); (try simp only [Act.put, List.setIfInBounds_toArray, List.set_cons_zero, List.set_cons_succ]))
      (refine wpAnyH_take (i := 45) (oi := ⟨some 85, _, _, _, _, _⟩) (v := ?_) rfl (by kernel_rfl) (by kernel_rfl) (by kernel_rfl) (fun _ _ _ h => h) (Or.inl ⟨by rfl, ?_⟩) (by assumption) ?_; rotate_left; (focus (intro w hSw; (try dsimp only at hSw); go_simp; (try with_reducible rfl))); (try simp only [Act.put, List.setIfInBounds_toArray, List.set_cons_zero, List.set_cons_succ]))
      (refine wpAnyH_take (i := 47) (oi := ⟨some 87, _, _, _, _, _⟩) (v := ?_) rfl (by kernel_rfl) (by kernel_rfl) (by kernel_rfl) (fun _ _ _ h => h) (Or.inl ⟨by rfl, ?_⟩) (by assumption) ?_; rotate_left; (focus (intro w hSw; (try dsimp only at hSw); go_simp; (try with_reducible rfl))); (try simp only [Act.put, List.setIfInBounds_toArray, List.set_cons_zero, List.set_cons_succ]))
      (refine wpAnyH_take (i := 48) (oi := ⟨some 88, _, _, _, _, _⟩) (v := ?_) rfl (by kernel_rfl) (by kernel_rfl) (by kernel_rfl) (fun _ _ _ h => h) (Or.inl ⟨by rfl, ?_⟩) (by assumption) ?_; rotate_left; (focus (intro w hSw; (try dsimp only at hSw); go_simp; (try with_reducible rfl))); (try simp only [Act.put, List.setIfInBounds_toArray, List.set_cons_zero, List.set_cons_succ]))
      (refine wpAnyH_take (i := 49) (oi := ⟨some 89, _, _, _, _, _⟩) (v := ?_) rfl (by kernel_rfl) (by kernel_rfl) (by kernel_rfl) (fun _ _ _ h => h) (Or.inl ⟨by rfl, ?_⟩) (by assumption) ?_; rotate_left; (focus (intro w hSw; (try dsimp only at hSw); go_simp; (try with_reducible rfl))); (try simp only [Act.put, List.setIfInBounds_toArray, List.set_cons_zero, List.set_cons_succ]))
      (refine wpAnyH_ready (rs := [46]) (by kernel_rfl) (by simp) ?_; refine AllReadyH.cons rfl (fun K hK => ?_) AllReadyH.nil; go_simp)
      (go_at_call 16; refine (CV.out _ _ _ _ _ _ (by (repeat (first | with_reducible exact hS | with_reducible apply S6.drew | with_reducible apply S6.drewN)))).mono ?_; rintro r w7 ⟨X7, n7, c7, Y7, u7, d7, rfl, x5, y5, hS, kp⟩)
      (refine hK.out _ _ (K2.out _ _ _ hS) (fun hHeld2 => ?_); clear hHeld hK K; have hHeld := hHeld2; clear hHeld2; (try simp only [Act.put, List.setIfInBounds_toArray, List.set_cons_zero, List.set_cons_succ]))
      (refine wpAnyH_ready (rs := [50]) (by kernel_rfl) (by simp) ?_; refine AllReadyH.cons rfl (fun K hK => ?_) AllReadyH.nil; go_simp)
      (go_at_call 17; refine (CR.out _ _ _ _ _ _ (by (repeat (first | with_reducible exact hS | with_reducible apply S6.drew | with_reducible apply S6.drewN)))).mono ?_; rintro r w8 ⟨X8, n8, c8, Y8, u8, d8, rfl, x6, y6, hS, kp⟩; (first | (have x5 := kp _ _ _ _ x5) | (have x5 := kp _ _ _ _ (Arr.drewR x5)) | (have x5 := kp _ _ _ _ (Arr.drewRN x5)) | skip); (first | (have y5 := kp _ _ _ _ y5) | (have y5 := kp _ _ _ _ (Arr.drewR y5)) | (have y5 := kp _ _ _ _ (Arr.drewRN y5)) | skip))
      (refine hK.out _ _ (K2.out _ _ _ hS) (fun hHeld2 => ?_); clear hHeld hK K; have hHeld := hHeld2; clear hHeld2; (try simp only [Act.put, List.setIfInBounds_toArray, List.set_cons_zero, List.set_cons_succ]))
      (refine wpAnyH_ready (rs := [51]) (by kernel_rfl) (by simp) ?_; refine AllReadyH.cons rfl (fun K hK => ?_) AllReadyH.nil; go_simp)
      (go_at_call 11; refine (SM.out _ _ _ _ _ _ _ _ _ _ _ _ _ _ _ _ _ _ _ (by first | exact x5 | exact Arr.drewR x5 | exact Arr.drewRN x5) (by first | exact y5 | exact Arr.drewR y5 | exact Arr.drewRN y5) (by first | exact x6 | exact Arr.drewR x6 | exact Arr.drewRN x6) (by first | exact y6 | exact Arr.drewR y6 | exact Arr.drewRN y6)).mono ?_; rintro r w19 ⟨rfl, hb⟩; have hS := S6.later (by (repeat (first | with_reducible exact hS | with_reducible apply S6.drew | with_reducible apply S6.drewN))) hb; clear x5 y5 x6 y6)
      (refine hK.out _ _ (K2.out _ _ _ hS) (fun hHeld2 => ?_); clear hHeld hK K; have hHeld := hHeld2; clear hHeld2; (try simp only [Act.put, List.setIfInBounds_toArray, List.set_cons_zero, List.set_cons_succ]))
      refine wpAnyH_monoR (S' := fun w' => (((((w'.cell? ⟨w.heap.size + 1, 0, none⟩ = some (.bool p) ∧ w'.cell? ⟨w.heap.size + 1, 1, none⟩ = some (.slice A n c) ∧ w'.cell? ⟨w.heap.size + 1, 2, none⟩ = some (.int .i64 e) ∧ w'.cell? ⟨w.heap.size + 1, 3, none⟩ = some (.bool q) ∧ w'.cell? ⟨w.heap.size + 1, 4, none⟩ = some (.slice A' n' c') ∧ w'.cell? ⟨w.heap.size + 1, 5, none⟩ = some (.int .i64 f)) ∧ w'.cell? ⟨w.heap.size + 1 + 1, 0, none⟩ = some (.bool s) ∧ w'.cell? ⟨w.heap.size + 1 + 1, 1, none⟩ = some (.slice B m k) ∧ w'.cell? ⟨w.heap.size + 1 + 1, 2, none⟩ = some (.int .i64 i) ∧ w'.cell? ⟨w.heap.size + 1 + 1, 3, none⟩ = some (.bool t) ∧ w'.cell? ⟨w.heap.size + 1 + 1, 4, none⟩ = some (.slice B' m' k') ∧ w'.cell? ⟨w.heap.size + 1 + 1, 5, none⟩ = some (.int .i64 j)) ∧ w'.cell? ⟨g1, 1, none⟩ = some (.bool z1) ∧ w'.cell? ⟨h1, 1, none⟩ = some (.bool z1)) ∧ w'.cell? ⟨g2, 1, none⟩ = some (.bool z2) ∧ w'.cell? ⟨h2, 1, none⟩ = some (.bool z2)) ∧ w'.cell? ⟨g3, 1, none⟩ = some (.bool z3) ∧ w'.cell? ⟨h3, 1, none⟩ = some (.bool z3))) (fun w' h => h.1) _ _ _ _ ?_
      clear hHeld
      have hHeld := K3.out _ hS
      (refine wpAnyH_take (i := 52) (oi := ⟨some 92, _, _, _, _, _⟩) (v := ?_) rfl (by kernel_rfl) (by kernel_rfl) (by kernel_rfl) (fun _ _ _ h => h) (Or.inl ⟨by rfl, ?_⟩) (by assumption) ?_; rotate_left; (focus (intro w hSw; (try dsimp only at hSw); go_simp; (try with_reducible rfl))); (try simp only [Act.put, List.setIfInBounds_toArray, List.set_cons_zero, List.set_cons_succ]))
      (refine wpAnyH_take (i := 53) (oi := ⟨some 93, _, _, _, _, _⟩) (v := ?_) rfl (by kernel_rfl) (by kernel_rfl) (by kernel_rfl) (fun _ _ _ h => h) (Or.inl ⟨by rfl, ?_⟩) (by assumption) ?_; rotate_left; (focus (intro w hSw; (try dsimp only at hSw); go_simp; (try with_reducible rfl))); (try simp only [Act.put, List.setIfInBounds_toArray, List.set_cons_zero, List.set_cons_succ]))
      (refine wpAnyH_take (i := 54) (oi := ⟨some 94, _, _, _, _, _⟩) (v := ?_) rfl (by kernel_rfl) (by kernel_rfl) (by kernel_rfl) (fun _ _ _ h => h) (Or.inl ⟨by rfl, ?_⟩) (by assumption) ?_; rotate_left; (focus (intro w hSw; (try dsimp only at hSw); go_simp; (try with_reducible rfl))); (try simp only [Act.put, List.setIfInBounds_toArray, List.set_cons_zero, List.set_cons_succ]))
      (refine wpAnyH_take (i := 55) (oi := ⟨some 95, _, _, _, _, _⟩) (v := ?_) rfl (by kernel_rfl) (by kernel_rfl) (by kernel_rfl) (fun _ _ _ h => h) (Or.inl ⟨by rfl, ?_⟩) (by assumption) ?_; rotate_left; (focus (intro w hSw; (try dsimp only at hSw); go_simp; (try with_reducible rfl))); (try simp only [Act.put, List.setIfInBounds_toArray, List.set_cons_zero, List.set_cons_succ]))
      (refine wpAnyH_take (i := 56) (oi := ⟨some 96, _, _, _, _, _⟩) (v := ?_) rfl (by kernel_rfl) (by kernel_rfl) (by kernel_rfl) (fun _ _ _ h => h) (Or.inl ⟨by rfl, ?_⟩) (by assumption) ?_; rotate_left; (focus (intro w hSw; (try dsimp only at hSw); go_simp; (try with_reducible rfl))); (try simp only [Act.put, List.setIfInBounds_toArray, List.set_cons_zero, List.set_cons_succ]))
      (refine wpAnyH_take (i := 57) (oi := ⟨some 97, _, _, _, _, _⟩) (v := ?_) rfl (by kernel_rfl) (by kernel_rfl) (by kernel_rfl) (fun _ _ _ h => h) (Or.inl ⟨by rfl, ?_⟩) (by assumption) ?_; rotate_left; (focus (intro w hSw; (try dsimp only at hSw); go_simp; (try with_reducible rfl))); (try simp only [Act.put, List.setIfInBounds_toArray, List.set_cons_zero, List.set_cons_succ]))
      (refine wpAnyH_take (i := 58) (oi := ⟨some 98, _, _, _, _, _⟩) (v := ?_) rfl (by kernel_rfl) (by kernel_rfl) (by kernel_rfl) (fun _ _ _ h => h) (Or.inl ⟨by rfl, ?_⟩) (by assumption) ?_; rotate_left; (focus (intro w hSw; (try dsimp only at hSw); go_simp; (try with_reducible rfl))); (try simp only [Act.put, List.setIfInBounds_toArray, List.set_cons_zero, List.set_cons_succ]))
      (refine wpAnyH_take (i := 59) (oi := ⟨some 99, _, _, _, _, _⟩) (v := ?_) rfl (by kernel_rfl) (by kernel_rfl) (by kernel_rfl) (fun _ _ _ h => h) (Or.inl ⟨by rfl, ?_⟩) (by assumption) ?_; rotate_left; (focus (intro w hSw; (try dsimp only at hSw); go_simp; (try with_reducible rfl))); (try simp only [Act.put, List.setIfInBounds_toArray, List.set_cons_zero, List.set_cons_succ]))
      (refine wpAnyH_take (i := 60) (oi := ⟨some 100, _, _, _, _, _⟩) (v := ?_) rfl (by kernel_rfl) (by kernel_rfl) (by kernel_rfl) (fun _ _ _ h => h) (Or.inl ⟨by rfl, ?_⟩) (by assumption) ?_; rotate_left; (focus (intro w hSw; (try dsimp only at hSw); go_simp; (try with_reducible rfl))); (try simp only [Act.put, List.setIfInBounds_toArray, List.set_cons_zero, List.set_cons_succ]))
      (refine wpAnyH_take (i := 61) (oi := ⟨some 101, _, _, _, _, _⟩) (v := ?_) rfl (by kernel_rfl) (by kernel_rfl) (by kernel_rfl) (fun _ _ _ h => h) (Or.inl ⟨by rfl, ?_⟩) (by assumption) ?_; rotate_left; (focus (intro w hSw; (try dsimp only at hSw); go_simp; (try with_reducible rfl))); (try simp only [Act.put, List.setIfInBounds_toArray, List.set_cons_zero, List.set_cons_succ]))
      (refine wpAnyH_take (i := 62) (oi := ⟨some 102, _, _, _, _, _⟩) (v := ?_) rfl (by kernel_rfl) (by kernel_rfl) (by kernel_rfl) (fun _ _ _ h => h) (Or.inl ⟨by rfl, ?_⟩) (by assumption) ?_; rotate_left; (focus (intro w hSw; (try dsimp only at hSw); go_simp; (try with_reducible rfl))); (try simp only [Act.put, List.setIfInBounds_toArray, List.set_cons_zero, List.set_cons_succ]))
      (refine wpAnyH_take (i := 63) (oi := ⟨some 103, _, _, _, _, _⟩) (v := ?_) rfl (by kernel_rfl) (by kernel_rfl) (by kernel_rfl) (fun _ _ _ h => h) (Or.inl ⟨by rfl, ?_⟩) (by assumption) ?_; rotate_left; (focus (intro w hSw; (try dsimp only at hSw); go_simp; (try with_reducible rfl))); (try simp only [Act.put, List.setIfInBounds_toArray, List.set_cons_zero, List.set_cons_succ]))
      (refine wpAnyH_take (i := 64) (oi := ⟨some 6, _, _, _, _, _⟩) (v := ?_) rfl (by kernel_rfl) (by kernel_rfl) (by kernel_rfl) (fun _ _ _ h => h) (Or.inl ⟨by rfl, ?_⟩) (by assumption) ?_; rotate_left; (focus (intro w hSw; (try dsimp only at hSw); go_simp; (try with_reducible rfl))); (try simp only [Act.put, List.setIfInBounds_toArray, List.set_cons_zero, List.set_cons_succ]))
      refine wpAnyH_done (by kernel_rfl) ?_ _
      refine NoPanic.normal ?_
      go_wp2_with fail
      go_ret
      refine ⟨rfl, ?_⟩
      (repeat (first | with_reducible exact hS.below | with_reducible apply Below.drew | with_reducible refine below_drewN ?_ _))
end Go.Proofs.YteffemhapnbaeaaGreatDoor
