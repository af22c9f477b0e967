/- The document's work: take, give. -/
import Derived.Test.YteffemhapnbaeaaDoorMW
namespace Go.Proofs.YteffemhapnbaeaaDoor
open Go.RowKit Num
set_option linter.unusedSimpArgs false
set_option linter.unusedVariables false
set_option maxRecDepth 100000

theorem take_bad {b1 T T' bi : Bool} (h : bi = (b1 || !T)) (ha : T' = (T && false)) : true = (b1 || !T') := by
  subst ha; cases b1 <;> cases T <;> rfl
theorem take_good {b1 T T' bi : Bool} (h : bi = (b1 || !T)) (ha : T' = (T && true)) : bi = (b1 || !T') := by
  subst ha; rw [h, Bool.and_true]
set_option maxHeartbeats 4000000 in
theorem rtake03 (g h m : Nat) (P : Int) (bad : Bool) (l : List SVal) (hm : l.length = m) (w : World) (hk : Wk w g P bad 42) (hs : SVs w h l) (hne : h ≠ g) (hl : m ≤ 1000000) (hn : ∀ s ∈ l, s.n ≤ 1000000 ∧ s.n' ≤ 1000000) :
    Calls Tryd.prog 30 #[.pointer (some ⟨g, 0, none⟩), .slice (some ⟨h, 0, none⟩) m m] w fun r w' => r = .returned (.bool (!takeB bad P l)) ∧ Wk w' g P (takeB bad P l) 42 ∧ w.grownBy w' (some g) := by
  subst hm
  obtain ⟨k0, k1, f0, f1⟩ := hk.cells
  have hg := hk.lt
  have HA : ∀ i (h : i < l.length), (l.take (i + 1)).all SVal.right = ((l.take i).all SVal.right && (l[i]).right) := fun i h => by
    rw [List.take_add_one, List.getElem?_eq_getElem h, List.all_append]
    simp
  have HA := Lib.hid HA
  have HZ : l.take l.length = l := List.take_length
  have HZ := Lib.hid HZ
  by_cases p1 : P < 1
  · have d1 : decide (P < 1) = true := decide_eq_true p1
    have ht : takeB bad P l = (true || !(l.all SVal.right)) := by unfold takeB; rw [d1]; simp
    rw [ht]
    have hk1 := hk.set true
    have g1 := grown_set w g 1 (.bool true)
    clear ht
    go_enter Tryd.func30, Tryd.ntmps30
    go_wp2_with fail
    (go_loopw [5] (fun v wr => ∃ (i : Nat) (bi : Bool), i ≤ l.length ∧ v = .int .i64 i ∧ Hid (bi = (true || !((l.take i).all SVal.right))) ∧ Wk wr g P bi 42 ∧ w.grownBy wr (some g)) (fun v _ => l.length - (intOf v).toNat); (case atStart => exact ⟨0, true, Nat.zero_le _, rfl, by show true = _; simp, hk1, g1⟩); (case round => obtain ⟨i, bi, hi, rfl, hB, hkr, hW⟩ := hrel; have hkc := hkr; obtain ⟨k0, k1, f0, f1⟩ := hkc.cells; by_cases h0 : i < l.length; (have hsr := hs.grown hk hW hne; have q0 := hsr.c0 i h0; have q1 := hsr.c1 i h0; have q2 := hsr.c2 i h0; have q3 := hsr.c3 i h0; have q4 := hsr.c4 i h0; have q5 := hsr.c5 i h0; obtain ⟨hA, hA'⟩ := hsr.ok i h0; have ha := HA.out i h0; obtain ⟨z1, z2⟩ := hn (l[i]) (List.getElem_mem h0); generalize hx : l[i] = x at *; obtain ⟨p, A, n, c, xs, e, q, A', n', c', ys, f⟩ := x; simp only at q0 q1 q2 q3 q4 q5 hA hA' z1 z2; have hr : (SVal.mk p A n c xs e q A' n' c' ys f).right = rightS p q xs ys e f := rfl; rw [hr] at ha; have RT := Lib.hid (rright03 p q A A' n c n' c' xs ys e f _ hA hA' z1 z2); generalize rightS p q xs ys e f = rr at *; have HA1 := Lib.hid ha; clear ha hr hx hsr; cases rr; (go_wp2_with fail; refine RT.out.mono ?_; rintro r w4 ⟨rfl, hb4⟩; have hk4 := hkr.later hb4; have g4 := grown_on hW hb4; obtain ⟨z0, z1', y0, y1⟩ := hk4.cells; clear k0 k1 f0 f1; go_wp2_with fail; exact ⟨⟨i + 1, true, by omega, by go_num, (take_bad hB.out HA1.out), hk4.set _, grown_trans g4 (grown_set _ g 1 _)⟩, by simp only [intOf]; omega⟩); (go_wp2_with fail; refine RT.out.mono ?_; rintro r w4 ⟨rfl, hb4⟩; have hk4 := hkr.later hb4; have g4 := grown_on hW hb4; clear k0 k1 f0 f1; go_wp2_with fail; exact ⟨⟨i + 1, bi, by omega, by go_num, (take_good hB.out HA1.out), hk4, g4⟩, by simp only [intOf]; omega⟩)); (obtain rfl : i = l.length := (by omega); have e1 := hB.out; rw [HZ.out] at e1; have E1 := Lib.hid e1; clear e1; go_wp2_with fail; go_ret; rw [← E1.out]; exact ⟨rfl, hkr, hW⟩)))
  · have d1 : decide (P < 1) = false := decide_eq_false p1
    by_cases p2 : 8192 < P
    · have d2 : decide (P > 8192) = true := decide_eq_true p2
      have d3 : decide (8192 < P) = true := decide_eq_true p2
      have ht : takeB bad P l = (true || !(l.all SVal.right)) := by unfold takeB; rw [d3]; simp
      rw [ht]
      have hk1 := hk.set true
      have g1 := grown_set w g 1 (.bool true)
      clear ht
      go_enter Tryd.func30, Tryd.ntmps30
      go_wp2_with fail
      (go_loopw [5] (fun v wr => ∃ (i : Nat) (bi : Bool), i ≤ l.length ∧ v = .int .i64 i ∧ Hid (bi = (true || !((l.take i).all SVal.right))) ∧ Wk wr g P bi 42 ∧ w.grownBy wr (some g)) (fun v _ => l.length - (intOf v).toNat); (case atStart => exact ⟨0, true, Nat.zero_le _, rfl, by show true = _; simp, hk1, g1⟩); (case round => obtain ⟨i, bi, hi, rfl, hB, hkr, hW⟩ := hrel; have hkc := hkr; obtain ⟨k0, k1, f0, f1⟩ := hkc.cells; by_cases h0 : i < l.length; (have hsr := hs.grown hk hW hne; have q0 := hsr.c0 i h0; have q1 := hsr.c1 i h0; have q2 := hsr.c2 i h0; have q3 := hsr.c3 i h0; have q4 := hsr.c4 i h0; have q5 := hsr.c5 i h0; obtain ⟨hA, hA'⟩ := hsr.ok i h0; have ha := HA.out i h0; obtain ⟨z1, z2⟩ := hn (l[i]) (List.getElem_mem h0); generalize hx : l[i] = x at *; obtain ⟨p, A, n, c, xs, e, q, A', n', c', ys, f⟩ := x; simp only at q0 q1 q2 q3 q4 q5 hA hA' z1 z2; have hr : (SVal.mk p A n c xs e q A' n' c' ys f).right = rightS p q xs ys e f := rfl; rw [hr] at ha; have RT := Lib.hid (rright03 p q A A' n c n' c' xs ys e f _ hA hA' z1 z2); generalize rightS p q xs ys e f = rr at *; have HA1 := Lib.hid ha; clear ha hr hx hsr; cases rr; (go_wp2_with fail; refine RT.out.mono ?_; rintro r w4 ⟨rfl, hb4⟩; have hk4 := hkr.later hb4; have g4 := grown_on hW hb4; obtain ⟨z0, z1', y0, y1⟩ := hk4.cells; clear k0 k1 f0 f1; go_wp2_with fail; exact ⟨⟨i + 1, true, by omega, by go_num, (take_bad hB.out HA1.out), hk4.set _, grown_trans g4 (grown_set _ g 1 _)⟩, by simp only [intOf]; omega⟩); (go_wp2_with fail; refine RT.out.mono ?_; rintro r w4 ⟨rfl, hb4⟩; have hk4 := hkr.later hb4; have g4 := grown_on hW hb4; clear k0 k1 f0 f1; go_wp2_with fail; exact ⟨⟨i + 1, bi, by omega, by go_num, (take_good hB.out HA1.out), hk4, g4⟩, by simp only [intOf]; omega⟩)); (obtain rfl : i = l.length := (by omega); have e1 := hB.out; rw [HZ.out] at e1; have E1 := Lib.hid e1; clear e1; go_wp2_with fail; go_ret; rw [← E1.out]; exact ⟨rfl, hkr, hW⟩)))
    · have d2 : decide (P > 8192) = false := decide_eq_false p2
      have d3 : decide (8192 < P) = false := decide_eq_false p2
      have ht : takeB bad P l = (bad || !(l.all SVal.right)) := by unfold takeB; rw [d1, d3]; simp
      rw [ht]
      have hk1 := hk
      have g1 := grown_self w (some g)
      clear ht
      go_enter Tryd.func30, Tryd.ntmps30
      go_wp2_with fail
      (go_loopw [5] (fun v wr => ∃ (i : Nat) (bi : Bool), i ≤ l.length ∧ v = .int .i64 i ∧ Hid (bi = (bad || !((l.take i).all SVal.right))) ∧ Wk wr g P bi 42 ∧ w.grownBy wr (some g)) (fun v _ => l.length - (intOf v).toNat); (case atStart => exact ⟨0, bad, Nat.zero_le _, rfl, by show bad = _; simp, hk1, g1⟩); (case round => obtain ⟨i, bi, hi, rfl, hB, hkr, hW⟩ := hrel; have hkc := hkr; obtain ⟨k0, k1, f0, f1⟩ := hkc.cells; by_cases h0 : i < l.length; (have hsr := hs.grown hk hW hne; have q0 := hsr.c0 i h0; have q1 := hsr.c1 i h0; have q2 := hsr.c2 i h0; have q3 := hsr.c3 i h0; have q4 := hsr.c4 i h0; have q5 := hsr.c5 i h0; obtain ⟨hA, hA'⟩ := hsr.ok i h0; have ha := HA.out i h0; obtain ⟨z1, z2⟩ := hn (l[i]) (List.getElem_mem h0); generalize hx : l[i] = x at *; obtain ⟨p, A, n, c, xs, e, q, A', n', c', ys, f⟩ := x; simp only at q0 q1 q2 q3 q4 q5 hA hA' z1 z2; have hr : (SVal.mk p A n c xs e q A' n' c' ys f).right = rightS p q xs ys e f := rfl; rw [hr] at ha; have RT := Lib.hid (rright03 p q A A' n c n' c' xs ys e f _ hA hA' z1 z2); generalize rightS p q xs ys e f = rr at *; have HA1 := Lib.hid ha; clear ha hr hx hsr; cases rr; (go_wp2_with fail; refine RT.out.mono ?_; rintro r w4 ⟨rfl, hb4⟩; have hk4 := hkr.later hb4; have g4 := grown_on hW hb4; obtain ⟨z0, z1', y0, y1⟩ := hk4.cells; clear k0 k1 f0 f1; go_wp2_with fail; exact ⟨⟨i + 1, true, by omega, by go_num, (take_bad hB.out HA1.out), hk4.set _, grown_trans g4 (grown_set _ g 1 _)⟩, by simp only [intOf]; omega⟩); (go_wp2_with fail; refine RT.out.mono ?_; rintro r w4 ⟨rfl, hb4⟩; have hk4 := hkr.later hb4; have g4 := grown_on hW hb4; clear k0 k1 f0 f1; go_wp2_with fail; exact ⟨⟨i + 1, bi, by omega, by go_num, (take_good hB.out HA1.out), hk4, g4⟩, by simp only [intOf]; omega⟩)); (obtain rfl : i = l.length := (by omega); have e1 := hB.out; rw [HZ.out] at e1; have E1 := Lib.hid e1; clear e1; go_wp2_with fail; go_ret; rw [← E1.out]; exact ⟨rfl, hkr, hW⟩)))
theorem rgive_ok (g : Nat) (p q : Bool) (A A' : Option Addr) (n c n' c' : Nat) (e f : Int) (w : World) :
    Calls Tryd.prog 32 #[.pointer (some ⟨g, 0, none⟩), .agg #[.bool p, .slice A n c, .int .i64 e], .bool true, .agg #[.bool q, .slice A' n' c', .int .i64 f], .bool true] w fun r w' => r = .returned (.agg #[.bool p, .slice A n c, .int .i64 e, .bool q, .slice A' n' c', .int .i64 f]) ∧ Below w.heap.size w w' := by
  have b1 := below_alloc (below_self w) (.cells #[.bool p, .slice A n c, .int .i64 e] 26)
  have b2 := below_alloc b1 (.cells #[.bool q, .slice A' n' c', .int .i64 f] 26)
  have b0 : Below w.heap.size w (((w.alloc (.cells #[.bool p, .slice A n c, .int .i64 e] 26)).alloc (.cells #[.bool q, .slice A' n' c', .int .i64 f] 26)).alloc (.cells #[.bool false, .slice none 0 0, .int .i64 0, .bool false, .slice none 0 0, .int .i64 0] 28)) := below_alloc b2 _
  have xa := (box_new w #[.bool p, .slice A n c, .int .i64 e] 26).later (below_alloc (below_alloc (below_self _) (.cells #[.bool q, .slice A' n' c', .int .i64 f] 26)) (.cells #[.bool false, .slice none 0 0, .int .i64 0, .bool false, .slice none 0 0, .int .i64 0] 28))
  have xb := (box_new (w.alloc (.cells #[.bool p, .slice A n c, .int .i64 e] 26)) #[.bool q, .slice A' n' c', .int .i64 f] 26).later (below_alloc (below_self _) (.cells #[.bool false, .slice none 0 0, .int .i64 0, .bool false, .slice none 0 0, .int .i64 0] 28))
  rw [show (w.alloc (.cells #[.bool p, .slice A n c, .int .i64 e] 26)).heap.size = w.heap.size + 1 by simp] at xb
  have xr := box_new ((w.alloc (.cells #[.bool p, .slice A n c, .int .i64 e] 26)).alloc (.cells #[.bool q, .slice A' n' c', .int .i64 f] 26)) #[.bool false, .slice none 0 0, .int .i64 0, .bool false, .slice none 0 0, .int .i64 0] 28
  rw [show ((w.alloc (.cells #[.bool p, .slice A n c, .int .i64 e] 26)).alloc (.cells #[.bool q, .slice A' n' c', .int .i64 f] 26)).heap.size = w.heap.size + 1 + 1 by simp] at xr
  obtain ⟨k0, k1, k2, f0, f1, f2⟩ := xa.cell3
  obtain ⟨j0, j1, j2, g0, g1, g2⟩ := xb.cell3
  go_enter Tryd.func32, Tryd.ntmps32
  go_wp2_with (refine wp_put6 rfl _ _ rfl rfl (w.heap.size + 1 + 1) p A n c e q A' n' c' f xr rfl rfl (fun W1 y1 gW1 => ?_); have b0 := below_grownBy b0 gW1 (show w.heap.size ≤ w.heap.size + 1 + 1 by omega); obtain ⟨u0, u1, u2, u3, u4, u5, -⟩ := y1.cell6)
  refine bodyPost_ret (v := (.agg #[.bool p, .slice A n c, .int .i64 e, .bool q, .slice A' n' c', .int .i64 f])) ?_ rfl ⟨rfl, b0⟩
  simp [results, Tryd.results32, go_sem, u0, u1, u2, u3, u4, u5]
theorem rgive_no (g : Nat) (P : Int) (bad : Bool) (p q a b : Bool) (A A' : Option Addr) (n c n' c' : Nat) (e f : Int) (w : World) (hk : Wk w g P bad 42) (hab : Hid ((a && b) = false)) :
    Calls Tryd.prog 32 #[.pointer (some ⟨g, 0, none⟩), .agg #[.bool p, .slice A n c, .int .i64 e], .bool a, .agg #[.bool q, .slice A' n' c', .int .i64 f], .bool b] w fun r w' => r = .returned (.agg #[.bool false, .slice none 0 0, .int .i64 0, .bool false, .slice none 0 0, .int .i64 0]) ∧ Wk w' g P true 42 ∧ w.grownBy w' (some g) := by
  have b0 : Below w.heap.size w (((w.alloc (.cells #[.bool p, .slice A n c, .int .i64 e] 26)).alloc (.cells #[.bool q, .slice A' n' c', .int .i64 f] 26)).alloc (.cells #[.bool false, .slice none 0 0, .int .i64 0, .bool false, .slice none 0 0, .int .i64 0] 28)) := below_alloc (below_alloc (below_alloc (below_self w) _) _) _
  have hg := hk.lt
  obtain ⟨k0, k1, f0, f1⟩ := (hk.later b0).cells
  have xr0 := box_new ((w.alloc (.cells #[.bool p, .slice A n c, .int .i64 e] 26)).alloc (.cells #[.bool q, .slice A' n' c', .int .i64 f] 26)) #[.bool false, .slice none 0 0, .int .i64 0, .bool false, .slice none 0 0, .int .i64 0] 28
  rw [show ((w.alloc (.cells #[.bool p, .slice A n c, .int .i64 e] 26)).alloc (.cells #[.bool q, .slice A' n' c', .int .i64 f] 26)).heap.size = w.heap.size + 1 + 1 by simp] at xr0
  have xr := xr0.apart (show w.heap.size + 1 + 1 ≠ g by omega) 1 (.bool true)
  have hk3 := (hk.later b0).set true
  have g3 := grown_trans (grown_of b0 (some g)) (grown_set _ g 1 (.bool true))
  cases a
  · clear hab
    go_enter Tryd.func32, Tryd.ntmps32
    go_wp2_with (refine wp_put6 rfl _ _ rfl rfl (w.heap.size + 1 + 1) false none 0 0 0 false none 0 0 0 xr rfl rfl (fun W1 y1 gW1 => ?_); have hk4 := hk3.other gW1 (by omega); obtain ⟨u0, u1, u2, u3, u4, u5, -⟩ := y1.cell6)
    refine bodyPost_ret (v := .agg #[.bool false, .slice none 0 0, .int .i64 0, .bool false, .slice none 0 0, .int .i64 0]) ?_ rfl ⟨rfl, hk4, grown_own g3 gW1 (by omega)⟩
    simp [results, Tryd.results32, go_sem, u0, u1, u2, u3, u4, u5]
  · obtain rfl : b = false := by simpa using hab.out
    clear hab
    go_enter Tryd.func32, Tryd.ntmps32
    go_wp2_with (refine wp_put6 rfl _ _ rfl rfl (w.heap.size + 1 + 1) false none 0 0 0 false none 0 0 0 xr rfl rfl (fun W1 y1 gW1 => ?_); have hk4 := hk3.other gW1 (by omega); obtain ⟨u0, u1, u2, u3, u4, u5, -⟩ := y1.cell6)
    refine bodyPost_ret (v := .agg #[.bool false, .slice none 0 0, .int .i64 0, .bool false, .slice none 0 0, .int .i64 0]) ?_ rfl ⟨rfl, hk4, grown_own g3 gW1 (by omega)⟩
    simp [results, Tryd.results32, go_sem, u0, u1, u2, u3, u4, u5]
end Go.Proofs.YteffemhapnbaeaaDoor
