/- The document's Hull. -/
import Derived.Deep.RegionHeld3
import Derived.Test.YteffemhapnbaeaaDoorSoD
import Derived.Test.YteffemhapnbaeaaDoorSnP
namespace Go.Proofs.YteffemhapnbaeaaDoor
open Go.RowKit Num
set_option linter.unusedSimpArgs false
set_option linter.unusedVariables false
set_option maxRecDepth 100000

theorem rleast_two_f {D1 D2 : Dy} {A1 A2 : Option Addr} {n1 c1 n2 c2 : Nat} (h : Nat) (w : World) (hd : DVs w h [⟨D1.neg, A1, n1, c1, wd D1.m, D1.e⟩, ⟨D2.neg, A2, n2, c2, wd D2.m, D2.e⟩]) (h1 : n1 ≤ 1000000) (h2 : n2 ≤ 1000000) :
    Calls Tryd.prog 40 #[.slice (some ⟨h, 0, none⟩) 2 2, .bool false] w (RetA (stepY false D1 D2) w) := by
  refine (rleast_f h 2 2 _ rfl w hd (Nat.zero_lt_succ _) (by decide) (fun d hd => by
    simp at hd
    rcases hd with rfl | rfl
    · exact h1
    · exact h2)).mono ?_
  rintro r w' ⟨rfl, ha, hb⟩
  have hr : Rep (bestD false [⟨D1.neg, A1, n1, c1, wd D1.m, D1.e⟩, ⟨D2.neg, A2, n2, c2, wd D2.m, D2.e⟩]) (stepY false D1 D2) := step_rep ⟨rfl, rfl, rfl⟩ ⟨rfl, rfl, rfl⟩
  rw [hr.xs] at ha
  exact ⟨_, _, _, by rw [hr.neg, hr.e], ha.below hb, hb⟩
theorem rleast_two_t {D1 D2 : Dy} {A1 A2 : Option Addr} {n1 c1 n2 c2 : Nat} (h : Nat) (w : World) (hd : DVs w h [⟨D1.neg, A1, n1, c1, wd D1.m, D1.e⟩, ⟨D2.neg, A2, n2, c2, wd D2.m, D2.e⟩]) (h1 : n1 ≤ 1000000) (h2 : n2 ≤ 1000000) :
    Calls Tryd.prog 40 #[.slice (some ⟨h, 0, none⟩) 2 2, .bool true] w (RetA (stepY true D1 D2) w) := by
  refine (rleast_t h 2 2 _ rfl w hd (Nat.zero_lt_succ _) (by decide) (fun d hd => by
    simp at hd
    rcases hd with rfl | rfl
    · exact h1
    · exact h2)).mono ?_
  rintro r w' ⟨rfl, ha, hb⟩
  have hr : Rep (bestD true [⟨D1.neg, A1, n1, c1, wd D1.m, D1.e⟩, ⟨D2.neg, A2, n2, c2, wd D2.m, D2.e⟩]) (stepY true D1 D2) := step_rep ⟨rfl, rfl, rfl⟩ ⟨rfl, rfl, rfl⟩
  rw [hr.xs] at ha
  exact ⟨_, _, _, by rw [hr.neg, hr.e], ha.below hb, hb⟩
set_option maxHeartbeats 4000000 in
theorem rhull03 (p q s t : Bool) (A A' B B' : Option Addr) (n c n' c' m k m' k' : Nat) (xs ys us vs : List Int) (e f i j P : Int) (g : Nat) (bad : Bool) (w : World)
    (h : Arr w A n c xs) (h' : Arr w A' n' c' ys) (hB : Arr w B m k us) (hB' : Arr w B' m' k' vs) (hk : Wk w g P bad 42) (hn : n ≤ 100000) (hn' : n' ≤ 100000) (hm : m ≤ 100000) (hm' : m' ≤ 100000) :
    Calls Tryd.prog 15 #[.pointer (some ⟨g, 0, none⟩), .agg #[.bool p, .slice A n c, .int .i64 e, .bool q, .slice A' n' c', .int .i64 f], .agg #[.bool s, .slice B m k, .int .i64 i, .bool t, .slice B' m' k', .int .i64 j]] w
      (RetSp (if takeB bad P [(⟨p, A, n, c, xs, e, q, A', n', c', ys, f⟩ : SVal), (⟨s, B, m, k, us, i, t, B', m', k', vs, j⟩ : SVal)] = false then some (stepY false (⟨p, val xs, e⟩ : Dy) (⟨s, val us, i⟩ : Dy), stepY true (⟨q, val ys, f⟩ : Dy) (⟨t, val vs, j⟩ : Dy)) else none) g P 42 w) := by
  have hg := hk.lt
  have b2 : Below w.heap.size w (w.alloc (.cells #[.bool p, .slice A n c, .int .i64 e, .bool q, .slice A' n' c', .int .i64 f] 28)) := below_alloc (below_self w) _
  have b3 : Below w.heap.size w ((w.alloc (.cells #[.bool p, .slice A n c, .int .i64 e, .bool q, .slice A' n' c', .int .i64 f] 28)).alloc (.cells #[.bool s, .slice B m k, .int .i64 i, .bool t, .slice B' m' k', .int .i64 j] 28)) := below_alloc b2 _
  have b4 : Below w.heap.size w (((w.alloc (.cells #[.bool p, .slice A n c, .int .i64 e, .bool q, .slice A' n' c', .int .i64 f] 28)).alloc (.cells #[.bool s, .slice B m k, .int .i64 i, .bool t, .slice B' m' k', .int .i64 j] 28)).alloc (.cells #[.bool false, .slice none 0 0, .int .i64 0, .bool false, .slice none 0 0, .int .i64 0] 28)) := below_alloc b3 _
  have b5 : Below w.heap.size w ((((w.alloc (.cells #[.bool p, .slice A n c, .int .i64 e, .bool q, .slice A' n' c', .int .i64 f] 28)).alloc (.cells #[.bool s, .slice B m k, .int .i64 i, .bool t, .slice B' m' k', .int .i64 j] 28)).alloc (.cells #[.bool false, .slice none 0 0, .int .i64 0, .bool false, .slice none 0 0, .int .i64 0] 28)).alloc (.cells #[.bool p, .slice A n c, .int .i64 e, .bool q, .slice A' n' c', .int .i64 f, .bool s, .slice B m k, .int .i64 i, .bool t, .slice B' m' k', .int .i64 j] 28)) := below_alloc b4 _
  have s2 : (w.alloc (.cells #[.bool p, .slice A n c, .int .i64 e, .bool q, .slice A' n' c', .int .i64 f] 28)).heap.size = w.heap.size + 1 := by simp
  have s3 : ((w.alloc (.cells #[.bool p, .slice A n c, .int .i64 e, .bool q, .slice A' n' c', .int .i64 f] 28)).alloc (.cells #[.bool s, .slice B m k, .int .i64 i, .bool t, .slice B' m' k', .int .i64 j] 28)).heap.size = w.heap.size + 1 + 1 := by simp
  have s4 : (((w.alloc (.cells #[.bool p, .slice A n c, .int .i64 e, .bool q, .slice A' n' c', .int .i64 f] 28)).alloc (.cells #[.bool s, .slice B m k, .int .i64 i, .bool t, .slice B' m' k', .int .i64 j] 28)).alloc (.cells #[.bool false, .slice none 0 0, .int .i64 0, .bool false, .slice none 0 0, .int .i64 0] 28)).heap.size = w.heap.size + 1 + 1 + 1 := by simp
  have xsa := (box_new w #[.bool p, .slice A n c, .int .i64 e, .bool q, .slice A' n' c', .int .i64 f] 28).later (below_alloc (below_alloc (below_alloc (below_self _) (.cells #[.bool s, .slice B m k, .int .i64 i, .bool t, .slice B' m' k', .int .i64 j] 28)) (.cells #[.bool false, .slice none 0 0, .int .i64 0, .bool false, .slice none 0 0, .int .i64 0] 28)) (.cells #[.bool p, .slice A n c, .int .i64 e, .bool q, .slice A' n' c', .int .i64 f, .bool s, .slice B m k, .int .i64 i, .bool t, .slice B' m' k', .int .i64 j] 28))
  have xsb := (box_new (w.alloc (.cells #[.bool p, .slice A n c, .int .i64 e, .bool q, .slice A' n' c', .int .i64 f] 28)) #[.bool s, .slice B m k, .int .i64 i, .bool t, .slice B' m' k', .int .i64 j] 28).later (below_alloc (below_alloc (below_self _) (.cells #[.bool false, .slice none 0 0, .int .i64 0, .bool false, .slice none 0 0, .int .i64 0] 28)) (.cells #[.bool p, .slice A n c, .int .i64 e, .bool q, .slice A' n' c', .int .i64 f, .bool s, .slice B m k, .int .i64 i, .bool t, .slice B' m' k', .int .i64 j] 28))
  have xr := (box_new ((w.alloc (.cells #[.bool p, .slice A n c, .int .i64 e, .bool q, .slice A' n' c', .int .i64 f] 28)).alloc (.cells #[.bool s, .slice B m k, .int .i64 i, .bool t, .slice B' m' k', .int .i64 j] 28)) #[.bool false, .slice none 0 0, .int .i64 0, .bool false, .slice none 0 0, .int .i64 0] 28).later (below_alloc (below_self _) (.cells #[.bool p, .slice A n c, .int .i64 e, .bool q, .slice A' n' c', .int .i64 f, .bool s, .slice B m k, .int .i64 i, .bool t, .slice B' m' k', .int .i64 j] 28))
  have xl := box_new (((w.alloc (.cells #[.bool p, .slice A n c, .int .i64 e, .bool q, .slice A' n' c', .int .i64 f] 28)).alloc (.cells #[.bool s, .slice B m k, .int .i64 i, .bool t, .slice B' m' k', .int .i64 j] 28)).alloc (.cells #[.bool false, .slice none 0 0, .int .i64 0, .bool false, .slice none 0 0, .int .i64 0] 28)) #[.bool p, .slice A n c, .int .i64 e, .bool q, .slice A' n' c', .int .i64 f, .bool s, .slice B m k, .int .i64 i, .bool t, .slice B' m' k', .int .i64 j] 28
  rw [s2] at xsb
  rw [s3] at xr
  rw [s4] at xl
  have hk5 := hk.later b5
  have TK := rtake03 g (w.heap.size + 1 + 1 + 1) 2 P bad [(⟨p, A, n, c, xs, e, q, A', n', c', ys, f⟩ : SVal), (⟨s, B, m, k, us, i, t, B', m', k', vs, j⟩ : SVal)] rfl _ hk5 (svs_two (⟨p, A, n, c, xs, e, q, A', n', c', ys, f⟩ : SVal) (⟨s, B, m, k, us, i, t, B', m', k', vs, j⟩ : SVal) xl ⟨h.below b5, h'.below b5⟩ ⟨hB.below b5, hB'.below b5⟩) (by omega) (by decide) (fun s hs => by
    simp at hs
    rcases hs with rfl | rfl
    · exact ⟨by show n ≤ 1000000; omega, by show n' ≤ 1000000; omega⟩
    · exact ⟨by show m ≤ 1000000; omega, by show m' ≤ 1000000; omega⟩)
  obtain ⟨k0, k1, k2, k3, k4, k5, -⟩ := (box_new w #[.bool p, .slice A n c, .int .i64 e, .bool q, .slice A' n' c', .int .i64 f] 28).later (below_alloc (below_alloc (below_self _) (.cells #[.bool s, .slice B m k, .int .i64 i, .bool t, .slice B' m' k', .int .i64 j] 28)) (.cells #[.bool false, .slice none 0 0, .int .i64 0, .bool false, .slice none 0 0, .int .i64 0] 28)) |>.cell6
  obtain ⟨j0, j1, j2, j3, j4, j5, -⟩ := (box_new (w.alloc (.cells #[.bool p, .slice A n c, .int .i64 e, .bool q, .slice A' n' c', .int .i64 f] 28)) #[.bool s, .slice B m k, .int .i64 i, .bool t, .slice B' m' k', .int .i64 j] 28).later (below_alloc (below_self _) (.cells #[.bool false, .slice none 0 0, .int .i64 0, .bool false, .slice none 0 0, .int .i64 0] 28)) |>.cell6
  rw [s2] at j0 j1 j2 j3 j4 j5
  have TP : takeB bad P [(⟨p, A, n, c, xs, e, q, A', n', c', ys, f⟩ : SVal), (⟨s, B, m, k, us, i, t, B', m', k', vs, j⟩ : SVal)] = false → _ := take_plain
  generalize takeB bad P [(⟨p, A, n, c, xs, e, q, A', n', c', ys, f⟩ : SVal), (⟨s, B, m, k, us, i, t, B', m', k', vs, j⟩ : SVal)] = tb at *
  have TK := Lib.hid TK
  have TP := Lib.hid TP
  clear s2 s3 s4 b2 b3 b4 xl
  cases tb
  · rw [if_pos rfl]
    obtain ⟨p1, p2, p3, p4⟩ := TP.out rfl
    have v1 := (plainB_parts h.wf p1).2.2.1
    have v2 := (plainB_parts h'.wf p2).2.2.1
    have v3 := (plainB_parts hB.wf p3).2.2.1
    have v4 := (plainB_parts hB'.wf p4).2.2.1
    have MI := fun w' hh hd => rleast_two_f (D1 := (⟨p, val xs, e⟩ : Dy)) (D2 := (⟨s, val us, i⟩ : Dy)) (A1 := A) (A2 := B) (n1 := n) (c1 := c) (n2 := m) (c2 := k) hh w' hd (by omega) (by omega)
    have MA := fun w' hh hd => rleast_two_t (D1 := (⟨q, val ys, f⟩ : Dy)) (D2 := (⟨t, val vs, j⟩ : Dy)) (A1 := A') (A2 := B') (n1 := n') (c1 := c') (n2 := m') (c2 := k') hh w' hd (by omega) (by omega)
    simp only [v1, v2, v3, v4] at MI MA
    generalize stepY false (⟨p, val xs, e⟩ : Dy) (⟨s, val us, i⟩ : Dy) = LL at *
    generalize stepY true (⟨q, val ys, f⟩ : Dy) (⟨t, val vs, j⟩ : Dy) = UU at *
    have MI := Lib.hid MI
    have MA := Lib.hid MA
    clear p1 p2 p3 p4 v1 v2 v3 v4 TP
    go_enter Tryd.func15, Tryd.ntmps15
    go_wp2_with fail
    refine TK.out.mono ?_
    rintro r w6 ⟨rfl, hk6, g6⟩
    have xsa6 := xsa.grown g6 (show w.heap.size ≠ g by omega)
    have xsb6 := xsb.grown g6 (show w.heap.size + 1 ≠ g by omega)
    have xr6 := xr.grown g6 (show w.heap.size + 1 + 1 ≠ g by omega)
    have gw := grown_trans (grown_of b5 (some g)) g6
    have hA := hk.arr h gw
    have hA' := hk.arr h' gw
    have hC := hk.arr hB gw
    have hC' := hk.arr hB' gw
    clear k0 k1 k2 k3 k4 k5 j0 j1 j2 j3 j4 j5
    obtain ⟨k0, k1, k2, k3, k4, k5, -⟩ := xsa6.cell6
    obtain ⟨j0, j1, j2, j3, j4, j5, -⟩ := xsb6.cell6
    have KC : ∀ w', Below w6.heap.size w6 w' → ((w'.cell? ⟨w.heap.size, 0, none⟩ = some (.bool p) ∧ w'.cell? ⟨w.heap.size, 1, none⟩ = some (.slice A n c) ∧ w'.cell? ⟨w.heap.size, 2, none⟩ = some (.int .i64 e) ∧ w'.cell? ⟨w.heap.size, 3, none⟩ = some (.bool q) ∧ w'.cell? ⟨w.heap.size, 4, none⟩ = some (.slice A' n' c') ∧ w'.cell? ⟨w.heap.size, 5, none⟩ = some (.int .i64 f)) ∧ w'.cell? ⟨w.heap.size + 1, 0, none⟩ = some (.bool s) ∧ w'.cell? ⟨w.heap.size + 1, 1, none⟩ = some (.slice B m k) ∧ w'.cell? ⟨w.heap.size + 1, 2, none⟩ = some (.int .i64 i) ∧ w'.cell? ⟨w.heap.size + 1, 3, none⟩ = some (.bool t) ∧ w'.cell? ⟨w.heap.size + 1, 4, none⟩ = some (.slice B' m' k') ∧ w'.cell? ⟨w.heap.size + 1, 5, none⟩ = some (.int .i64 j)) := by
      intro w' hb
      obtain ⟨z0, z1, z2, z3, z4, z5, -⟩ := (xsa6.later hb).cell6
      obtain ⟨y0, y1, y2, y3, y4, y5, -⟩ := (xsb6.later hb).cell6
      exact ⟨⟨z0, z1, z2, z3, z4, z5⟩, ⟨y0, y1, y2, y3, y4, y5⟩⟩
    have KC := Lib.hid KC
    have E1 : ∀ W z, Below w6.heap.size w6 W → z = W.heap.size → ∀ w', Below (W.alloc (.cells #[.bool p, .slice A n c, .int .i64 e, .bool s, .slice B m k, .int .i64 i] 26)).heap.size (W.alloc (.cells #[.bool p, .slice A n c, .int .i64 e, .bool s, .slice B m k, .int .i64 i] 26)) w' → Calls Tryd.prog 40 #[.slice (some ⟨z, 0, none⟩) 2 2, .bool false] w' fun r w'' => ∃ A5 n5 c5, r = .returned (.agg #[.bool LL.neg, .slice A5 n5 c5, .int .i64 LL.e]) ∧ Arr w'' A5 n5 c5 (wd LL.m) ∧ Below w'.heap.size w' w'' ∧ Below w6.heap.size w6 w'' := by
      rintro W z hW rfl w' hb
      refine (MI.out w' W.heap.size ((dvs_two p s A B n c m k xs us e i (hA.below hW) (hC.below hW) 26).later hb)).mono ?_
      rintro r w'' ⟨A5, n5, c5, e5, h5, hb5⟩
      exact ⟨A5, n5, c5, e5, h5, hb5, below_on (below_on (below_alloc hW _) hb) hb5⟩
    have E2 : ∀ W z, Below w6.heap.size w6 W → z = W.heap.size → ∀ w', Below (W.alloc (.cells #[.bool q, .slice A' n' c', .int .i64 f, .bool t, .slice B' m' k', .int .i64 j] 26)).heap.size (W.alloc (.cells #[.bool q, .slice A' n' c', .int .i64 f, .bool t, .slice B' m' k', .int .i64 j] 26)) w' → Calls Tryd.prog 40 #[.slice (some ⟨z, 0, none⟩) 2 2, .bool true] w' fun r w'' => ∃ A5 n5 c5, r = .returned (.agg #[.bool UU.neg, .slice A5 n5 c5, .int .i64 UU.e]) ∧ Arr w'' A5 n5 c5 (wd UU.m) ∧ Below w'.heap.size w' w'' ∧ Below w6.heap.size w6 w'' := by
      rintro W z hW rfl w' hb
      refine (MA.out w' W.heap.size ((dvs_two q t A' B' n' c' m' k' ys vs f j (hA'.below hW) (hC'.below hW) 26).later hb)).mono ?_
      rintro r w'' ⟨A5, n5, c5, e5, h5, hb5⟩
      exact ⟨A5, n5, c5, e5, h5, hb5, below_on (below_on (below_alloc hW _) hb) hb5⟩
    have E1 := Lib.hid E1
    have E2 := Lib.hid E2
    have XR := Lib.hid (fun w' (hb : Below w6.heap.size w6 w') => (xr6.later hb).cell6)
    obtain ⟨⟨k0, k1, k2, k3, k4, k5⟩, ⟨j0, j1, j2, j3, j4, j5⟩⟩ := KC.out w6 (below_self _)
    have FIN := Lib.hid (fun w' X u v Y k j (h1 : Arr w' X u v (wd LL.m)) (h2 : Arr w' Y k j (wd UU.m)) (hb : Below w6.heap.size w6 w') => retSp_set6 (w := w) h1 h2 (xr6.later hb) (hk6.later hb) (grown_on gw hb) (show g ≠ w.heap.size + 1 + 1 by omega) (by omega))
    have KC2 : ∀ w', Below w6.heap.size w6 w' → ∀ p1 B1 n1 c1 e1 q1 B2 n2 c2 f1 W2, W2 = set6 w' (w.heap.size + 1 + 1) p1 B1 n1 c1 e1 q1 B2 n2 c2 f1 → ((W2.cell? ⟨w.heap.size, 0, none⟩ = some (.bool p) ∧ W2.cell? ⟨w.heap.size, 1, none⟩ = some (.slice A n c) ∧ W2.cell? ⟨w.heap.size, 2, none⟩ = some (.int .i64 e) ∧ W2.cell? ⟨w.heap.size, 3, none⟩ = some (.bool q) ∧ W2.cell? ⟨w.heap.size, 4, none⟩ = some (.slice A' n' c') ∧ W2.cell? ⟨w.heap.size, 5, none⟩ = some (.int .i64 f)) ∧ W2.cell? ⟨w.heap.size + 1, 0, none⟩ = some (.bool s) ∧ W2.cell? ⟨w.heap.size + 1, 1, none⟩ = some (.slice B m k) ∧ W2.cell? ⟨w.heap.size + 1, 2, none⟩ = some (.int .i64 i) ∧ W2.cell? ⟨w.heap.size + 1, 3, none⟩ = some (.bool t) ∧ W2.cell? ⟨w.heap.size + 1, 4, none⟩ = some (.slice B' m' k') ∧ W2.cell? ⟨w.heap.size + 1, 5, none⟩ = some (.int .i64 j)) := by
      rintro w' hb p1 B1 n1 c1 e1 q1 B2 n2 c2 f1 _ rfl
      have g6 := set6_grown w' (w.heap.size + 1 + 1) p1 B1 n1 c1 e1 q1 B2 n2 c2 f1
      obtain ⟨z0, z1, z2, z3, z4, z5, -⟩ := ((xsa6.later hb).grown g6 (show w.heap.size ≠ w.heap.size + 1 + 1 by omega)).cell6
      obtain ⟨y0, y1, y2, y3, y4, y5, -⟩ := ((xsb6.later hb).grown g6 (show w.heap.size + 1 ≠ w.heap.size + 1 + 1 by omega)).cell6
      exact ⟨⟨z0, z1, z2, z3, z4, z5⟩, ⟨y0, y1, y2, y3, y4, y5⟩⟩
    have KC2 := Lib.hid KC2
    go_wp2_with fail
    go_region_held3 (fun w' => ((w'.cell? ⟨w.heap.size, 0, none⟩ = some (.bool p) ∧ w'.cell? ⟨w.heap.size, 1, none⟩ = some (.slice A n c) ∧ w'.cell? ⟨w.heap.size, 2, none⟩ = some (.int .i64 e) ∧ w'.cell? ⟨w.heap.size, 3, none⟩ = some (.bool q) ∧ w'.cell? ⟨w.heap.size, 4, none⟩ = some (.slice A' n' c') ∧ w'.cell? ⟨w.heap.size, 5, none⟩ = some (.int .i64 f)) ∧ w'.cell? ⟨w.heap.size + 1, 0, none⟩ = some (.bool s) ∧ w'.cell? ⟨w.heap.size + 1, 1, none⟩ = some (.slice B m k) ∧ w'.cell? ⟨w.heap.size + 1, 2, none⟩ = some (.int .i64 i) ∧ w'.cell? ⟨w.heap.size + 1, 3, none⟩ = some (.bool t) ∧ w'.cell? ⟨w.heap.size + 1, 4, none⟩ = some (.slice B' m' k') ∧ w'.cell? ⟨w.heap.size + 1, 5, none⟩ = some (.int .i64 j))) (first | (refine KC.out _ ?_; (repeat (first | with_reducible assumption | with_reducible exact below_self _ | with_reducible refine below_drewN ?_ _ | with_reducible apply Below.drew | with_reducible refine below_alloc ?_ _)); done) | (refine KC2.out _ ?_ _ _ _ _ _ _ _ _ _ _ _ rfl; (repeat (first | with_reducible assumption | with_reducible exact below_self _ | with_reducible refine below_drewN ?_ _ | with_reducible apply Below.drew | with_reducible refine below_alloc ?_ _)); done) | go_keep) (first | (go_at_call_of 40 (Value.bool false); (first | (refine (E1.out w6 _ ?_ ?_ _ ?_).mono ?_; (focus ((repeat (first | with_reducible assumption | with_reducible exact below_self _ | with_reducible refine below_drewN ?_ _ | with_reducible apply Below.drew | with_reducible refine below_alloc ?_ _)); done)); (focus (first | rfl | (simp; done))); (focus ((repeat (first | with_reducible assumption | with_reducible exact below_self _ | with_reducible exact below_on (below_alloc (below_self _) _) hbX | with_reducible refine below_drewN ?_ _ | with_reducible apply Below.drew | with_reducible refine below_alloc ?_ _)); done))) | (refine (E1.out (w6.alloc (.cells #[.bool q, .slice A' n' c', .int .i64 f, .bool t, .slice B' m' k', .int .i64 j] 26)) _ ?_ ?_ _ ?_).mono ?_; (focus ((repeat (first | with_reducible assumption | with_reducible exact below_self _ | with_reducible refine below_drewN ?_ _ | with_reducible apply Below.drew | with_reducible refine below_alloc ?_ _)); done)); (focus (first | rfl | (simp; done))); (focus ((repeat (first | with_reducible assumption | with_reducible exact below_self _ | with_reducible exact below_on (below_alloc (below_self _) _) hbX | with_reducible refine below_drewN ?_ _ | with_reducible apply Below.drew | with_reducible refine below_alloc ?_ _)); done)))); rintro r w8 ⟨A1, n1, c1, rfl, a1, hb8, hB8⟩; have hbX := below_on (Below.drew (below_self _)) hb8) | (go_at_call_of 40 (Value.bool true); (first | (refine (E2.out w8 _ ?_ ?_ _ ?_).mono ?_; (focus ((repeat (first | with_reducible assumption | with_reducible exact below_self _ | with_reducible refine below_drewN ?_ _ | with_reducible apply Below.drew | with_reducible refine below_alloc ?_ _)); done)); (focus (first | rfl | (simp; done))); (focus ((repeat (first | with_reducible assumption | with_reducible exact below_self _ | with_reducible exact below_on (below_alloc (below_self _) _) hbX | with_reducible refine below_drewN ?_ _ | with_reducible apply Below.drew | with_reducible refine below_alloc ?_ _)); done))) | (refine (E2.out (w6.alloc (.cells #[.bool p, .slice A n c, .int .i64 e, .bool s, .slice B m k, .int .i64 i] 26)) _ ?_ ?_ _ ?_).mono ?_; (focus ((repeat (first | with_reducible assumption | with_reducible exact below_self _ | with_reducible refine below_drewN ?_ _ | with_reducible apply Below.drew | with_reducible refine below_alloc ?_ _)); done)); (focus (first | rfl | (simp; done))); (focus ((repeat (first | with_reducible assumption | with_reducible exact below_self _ | with_reducible exact below_on (below_alloc (below_self _) _) hbX | with_reducible refine below_drewN ?_ _ | with_reducible apply Below.drew | with_reducible refine below_alloc ?_ _)); done))) | (refine (E2.out w6 _ ?_ ?_ _ ?_).mono ?_; (focus ((repeat (first | with_reducible assumption | with_reducible exact below_self _ | with_reducible refine below_drewN ?_ _ | with_reducible apply Below.drew | with_reducible refine below_alloc ?_ _)); done)); (focus (first | rfl | (simp; done))); (focus ((repeat (first | with_reducible assumption | with_reducible exact below_self _ | with_reducible exact below_on (below_alloc (below_self _) _) hbX | with_reducible refine below_drewN ?_ _ | with_reducible apply Below.drew | with_reducible refine below_alloc ?_ _)); done)))); rintro r w9 ⟨A2, n2, c2, rfl, a2, hb9, hB9⟩; have a1 := Arr.below (Arr.below a1 ((by repeat (first | with_reducible assumption | with_reducible exact below_self _ | with_reducible refine below_drewN ?_ _ | with_reducible apply Below.drew | with_reducible refine below_alloc ?_ _)))) hb9; obtain ⟨u0, u1, u2, u3, u4, u5, fz0, fz1, fz2, fz3, fz4, fz5⟩ := XR.out _ hB9))
    all_goals
      go_wp2_with fail
      refine bodyPost_ret (v := _) ?_ rfl (FIN.out _ _ _ _ _ _ _ a1 a2 hB9)
      simp [results, Tryd.results15, go_sem, u0, u1, u2, u3, u4, u5]
  · rw [if_neg (by decide)]
    go_enter Tryd.func15, Tryd.ntmps15
    go_wp2_with fail
    refine TK.out.mono ?_
    rintro r w6 ⟨rfl, hk6, g6⟩
    have xr6 := xr.grown g6 (show w.heap.size + 1 + 1 ≠ g by omega)
    have gw := grown_trans (grown_of b5 (some g)) g6
    go_wp2_with (refine wp_put6 rfl _ _ rfl rfl (w.heap.size + 1 + 1) false none 0 0 0 false none 0 0 0 xr6 rfl rfl (fun W1 y1 gW1 => ?_); have hk9 := hk6.other gW1 (show g ≠ w.heap.size + 1 + 1 by omega); obtain ⟨u0, u1, u2, u3, u4, u5, -⟩ := y1.cell6)
    refine bodyPost_ret (v := .agg #[.bool false, .slice none 0 0, .int .i64 0, .bool false, .slice none 0 0, .int .i64 0]) ?_ rfl (retSp_none hk9 (grown_own gw gW1 (by omega)))
    simp [results, Tryd.results15, go_sem, u0, u1, u2, u3, u4, u5]
end Go.Proofs.YteffemhapnbaeaaDoor
