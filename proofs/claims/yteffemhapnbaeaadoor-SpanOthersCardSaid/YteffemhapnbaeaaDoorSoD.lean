/- A work's Hull. -/
import Derived.Test.YteffemhapnbaeaaDoorSnQ
namespace Go.Proofs.YteffemhapnbaeaaDoor
open Go.RowKit Num
variable {tw : TypeId}
set_option linter.unusedSimpArgs false
set_option linter.unusedVariables false
set_option maxRecDepth 100000

theorem take_plain {bad : Bool} {P : Int} {p q s t : Bool} {A A' B B' : Option Addr} {n c n' c' m k m' k' : Nat} {xs ys us vs : List Int} {e f i j : Int} (h : takeB bad P [(⟨p, A, n, c, xs, e, q, A', n', c', ys, f⟩ : SVal), (⟨s, B, m, k, us, i, t, B', m', k', vs, j⟩ : SVal)] = false) :
    plainB p xs e = true ∧ plainB q ys f = true ∧ plainB s us i = true ∧ plainB t vs j = true := by
  unfold takeB at h
  simp only [List.all_cons, List.all_nil, Bool.and_true, SVal.right, Bool.or_eq_false_iff, decide_eq_false_iff_not, Bool.not_eq_false', Bool.and_eq_true] at h
  obtain ⟨-, ra, rb⟩ := h
  unfold rightS bothB at ra rb
  simp only [Bool.and_eq_true] at ra rb
  exact ⟨ra.1.1, ra.1.2, rb.1.1, rb.1.2⟩
set_option maxHeartbeats 4000000 in
theorem sphull (p q s t : Bool) (A A' B B' : Option Addr) (n c n' c' m k m' k' : Nat) (xs ys us vs : List Int) (e f i j P : Int) (g : Nat) (bad : Bool) (w : World)
    (h : Arr w A n c xs) (h' : Arr w A' n' c' ys) (hB : Arr w B m k us) (hB' : Arr w B' m' k' vs) (hk : Wk w g P bad tw) :
    Calls Tryd.prog 14 #[.pointer (some ⟨g, 0, none⟩), .agg #[.bool p, .slice A n c, .int .i64 e, .bool q, .slice A' n' c', .int .i64 f], .agg #[.bool s, .slice B m k, .int .i64 i, .bool t, .slice B' m' k', .int .i64 j]] w
      (RetSp (if takeB bad P [(⟨p, A, n, c, xs, e, q, A', n', c', ys, f⟩ : SVal), (⟨s, B, m, k, us, i, t, B', m', k', vs, j⟩ : SVal)] = false then some (bestY false (⟨p, val xs, e⟩ : Dy) (⟨q, val ys, f⟩ : Dy) (⟨s, val us, i⟩ : Dy) (⟨t, val vs, j⟩ : Dy), bestY true (⟨p, val xs, e⟩ : Dy) (⟨q, val ys, f⟩ : Dy) (⟨s, val us, i⟩ : Dy) (⟨t, val vs, j⟩ : Dy)) else none) g P tw w) := by
  have hg := hk.lt
  have b2 : Below w.heap.size w (w.alloc (.cells #[.bool p, .slice A n c, .int .i64 e, .bool q, .slice A' n' c', .int .i64 f] 28)) := below_alloc (below_self w) _
  have b3 : Below w.heap.size w ((w.alloc (.cells #[.bool p, .slice A n c, .int .i64 e, .bool q, .slice A' n' c', .int .i64 f] 28)).alloc (.cells #[.bool s, .slice B m k, .int .i64 i, .bool t, .slice B' m' k', .int .i64 j] 28)) := below_alloc b2 _
  have b4 : Below w.heap.size w (((w.alloc (.cells #[.bool p, .slice A n c, .int .i64 e, .bool q, .slice A' n' c', .int .i64 f] 28)).alloc (.cells #[.bool s, .slice B m k, .int .i64 i, .bool t, .slice B' m' k', .int .i64 j] 28)).alloc (.cells #[.bool false, .slice none 0 0, .int .i64 0, .bool false, .slice none 0 0, .int .i64 0] 28)) := below_alloc b3 _
  have b5 : Below w.heap.size w ((((w.alloc (.cells #[.bool p, .slice A n c, .int .i64 e, .bool q, .slice A' n' c', .int .i64 f] 28)).alloc (.cells #[.bool s, .slice B m k, .int .i64 i, .bool t, .slice B' m' k', .int .i64 j] 28)).alloc (.cells #[.bool false, .slice none 0 0, .int .i64 0, .bool false, .slice none 0 0, .int .i64 0] 28)).alloc (.cells #[.bool p, .slice A n c, .int .i64 e, .bool q, .slice A' n' c', .int .i64 f, .bool s, .slice B m k, .int .i64 i, .bool t, .slice B' m' k', .int .i64 j] 28)) := below_alloc b4 _
  have s2 : (w.alloc (.cells #[.bool p, .slice A n c, .int .i64 e, .bool q, .slice A' n' c', .int .i64 f] 28)).heap.size = w.heap.size + 1 := by simp
  have s3 : ((w.alloc (.cells #[.bool p, .slice A n c, .int .i64 e, .bool q, .slice A' n' c', .int .i64 f] 28)).alloc (.cells #[.bool s, .slice B m k, .int .i64 i, .bool t, .slice B' m' k', .int .i64 j] 28)).heap.size = w.heap.size + 1 + 1 := by simp
  have s4 : (((w.alloc (.cells #[.bool p, .slice A n c, .int .i64 e, .bool q, .slice A' n' c', .int .i64 f] 28)).alloc (.cells #[.bool s, .slice B m k, .int .i64 i, .bool t, .slice B' m' k', .int .i64 j] 28)).alloc (.cells #[.bool false, .slice none 0 0, .int .i64 0, .bool false, .slice none 0 0, .int .i64 0] 28)).heap.size = w.heap.size + 1 + 1 + 1 := by simp
  have xsa := (box_new w #[.bool p, .slice A n c, .int .i64 e, .bool q, .slice A' n' c', .int .i64 f] 28).later (below_alloc (below_alloc (below_alloc (below_self _) (.cells #[.bool s, .slice B m k, .int .i64 i, .bool t, .slice B' m' k', .int .i64 j] 28)) (.cells #[.bool false, .slice none 0 0, .int .i64 0, .bool false, .slice none 0 0, .int .i64 0] 28)) (.cells #[.bool p, .slice A n c, .int .i64 e, .bool q, .slice A' n' c', .int .i64 f, .bool s, .slice B m k, .int .i64 i, .bool t, .slice B' m' k', .int .i64 j] 28))
  have xsb := (box_new (w.alloc (.cells #[.bool p, .slice A n c, .int .i64 e, .bool q, .slice A' n' c', .int .i64 f] 28)) #[.bool s, .slice B m k, .int .i64 i, .bool t, .slice B' m' k', .int .i64 j] 28).later (below_alloc (below_alloc (below_self _) (.cells #[.bool false, .slice none 0 0, .int .i64 0, .bool false, .slice none 0 0, .int .i64 0] 28)) (.cells #[.bool p, .slice A n c, .int .i64 e, .bool q, .slice A' n' c', .int .i64 f, .bool s, .slice B m k, .int .i64 i, .bool t, .slice B' m' k', .int .i64 j] 28))
  have xr := (box_new ((w.alloc (.cells #[.bool p, .slice A n c, .int .i64 e, .bool q, .slice A' n' c', .int .i64 f] 28)).alloc (.cells #[.bool s, .slice B m k, .int .i64 i, .bool t, .slice B' m' k', .int .i64 j] 28)) #[.bool false, .slice none 0 0, .int .i64 0, .bool false, .slice none 0 0, .int .i64 0] 28).later (below_alloc (below_self _) (.cells #[.bool p, .slice A n c, .int .i64 e, .bool q, .slice A' n' c', .int .i64 f, .bool s, .slice B m k, .int .i64 i, .bool t, .slice B' m' k', .int .i64 j] 28))
  have xl := box_new (((w.alloc (.cells #[.bool p, .slice A n c, .int .i64 e, .bool q, .slice A' n' c', .int .i64 f] 28)).alloc (.cells #[.bool s, .slice B m k, .int .i64 i, .bool t, .slice B' m' k', .int .i64 j] 28)).alloc (.cells #[.bool false, .slice none 0 0, .int .i64 0, .bool false, .slice none 0 0, .int .i64 0] 28)) #[.bool p, .slice A n c, .int .i64 e, .bool q, .slice A' n' c', .int .i64 f, .bool s, .slice B m k, .int .i64 i, .bool t, .slice B' m' k', .int .i64 j] 28
  rw [s2] at xsb
  rw [s3] at xr
  rw [s4] at xl
  have hk5 := hk.later b5
  have TK := sptake g (w.heap.size + 1 + 1 + 1) 2 P bad [(⟨p, A, n, c, xs, e, q, A', n', c', ys, f⟩ : SVal), (⟨s, B, m, k, us, i, t, B', m', k', vs, j⟩ : SVal)] rfl _ hk5 (svs_two (⟨p, A, n, c, xs, e, q, A', n', c', ys, f⟩ : SVal) (⟨s, B, m, k, us, i, t, B', m', k', vs, j⟩ : SVal) xl ⟨h.below b5, h'.below b5⟩ ⟨hB.below b5, hB'.below b5⟩) (by omega) (by decide)
  obtain ⟨k0, k1, k2, k3, k4, k5, -⟩ := (box_new w #[.bool p, .slice A n c, .int .i64 e, .bool q, .slice A' n' c', .int .i64 f] 28).later (below_alloc (below_alloc (below_self _) (.cells #[.bool s, .slice B m k, .int .i64 i, .bool t, .slice B' m' k', .int .i64 j] 28)) (.cells #[.bool false, .slice none 0 0, .int .i64 0, .bool false, .slice none 0 0, .int .i64 0] 28)) |>.cell6
  obtain ⟨j0, j1, j2, j3, j4, j5, -⟩ := (box_new (w.alloc (.cells #[.bool p, .slice A n c, .int .i64 e, .bool q, .slice A' n' c', .int .i64 f] 28)) #[.bool s, .slice B m k, .int .i64 i, .bool t, .slice B' m' k', .int .i64 j] 28).later (below_alloc (below_self _) (.cells #[.bool false, .slice none 0 0, .int .i64 0, .bool false, .slice none 0 0, .int .i64 0] 28)) |>.cell6
  rw [s2] at j0 j1 j2 j3 j4 j5
  have TP : takeB bad P [(⟨p, A, n, c, xs, e, q, A', n', c', ys, f⟩ : SVal), (⟨s, B, m, k, us, i, t, B', m', k', vs, j⟩ : SVal)] = false → _ := take_plain
  generalize takeB bad P [(⟨p, A, n, c, xs, e, q, A', n', c', ys, f⟩ : SVal), (⟨s, B, m, k, us, i, t, B', m', k', vs, j⟩ : SVal)] = tb at *
  have TK := Lib.hid TK
  have TP := Lib.hid TP
  clear s2 s3 s4 b2 b3 b4 xl
  cases tb
  · rw [if_pos rfl]
    obtain ⟨p1, p2, p3, p4⟩ := TP.out rfl
    have v1 := (plainB_parts h.wf p1).2.2.1
    have v2 := (plainB_parts h'.wf p2).2.2.1
    have v3 := (plainB_parts hB.wf p3).2.2.1
    have v4 := (plainB_parts hB'.wf p4).2.2.1
    have MI := fun w' hh hd => spmin_four (D1 := (⟨p, val xs, e⟩ : Dy)) (D2 := (⟨q, val ys, f⟩ : Dy)) (D3 := (⟨s, val us, i⟩ : Dy)) (D4 := (⟨t, val vs, j⟩ : Dy)) (h := hh) (A1 := A) (A2 := A') (A3 := B) (A4 := B') (n1 := n) (c1 := c) (n2 := n') (c2 := c') (n3 := m) (c3 := k) (n4 := m') (c4 := k') w' hd
    have MA := fun w' hh hd => spmax_four (D1 := (⟨p, val xs, e⟩ : Dy)) (D2 := (⟨q, val ys, f⟩ : Dy)) (D3 := (⟨s, val us, i⟩ : Dy)) (D4 := (⟨t, val vs, j⟩ : Dy)) (h := hh) (A1 := A) (A2 := A') (A3 := B) (A4 := B') (n1 := n) (c1 := c) (n2 := n') (c2 := c') (n3 := m) (c3 := k) (n4 := m') (c4 := k') w' hd
    simp only [v1, v2, v3, v4] at MI MA
    generalize bestY false (⟨p, val xs, e⟩ : Dy) (⟨q, val ys, f⟩ : Dy) (⟨s, val us, i⟩ : Dy) (⟨t, val vs, j⟩ : Dy) = LL at *
    generalize bestY true (⟨p, val xs, e⟩ : Dy) (⟨q, val ys, f⟩ : Dy) (⟨s, val us, i⟩ : Dy) (⟨t, val vs, j⟩ : Dy) = UU at *
    have MI := Lib.hid MI
    have MA := Lib.hid MA
    clear p1 p2 p3 p4 v1 v2 v3 v4 TP
    go_enter Tryd.func14, Tryd.ntmps14
    go_wp2_with fail
    refine TK.out.mono ?_
    rintro r w6 ⟨rfl, hk6, g6⟩
    have xsa6 := xsa.grown g6 (show w.heap.size ≠ g by omega)
    have xsb6 := xsb.grown g6 (show w.heap.size + 1 ≠ g by omega)
    have xr6 := xr.grown g6 (show w.heap.size + 1 + 1 ≠ g by omega)
    have gw := grown_trans (grown_of b5 (some g)) g6
    have hA := hk.arr h gw
    have hA' := hk.arr h' gw
    have hC := hk.arr hB gw
    have hC' := hk.arr hB' gw
    clear k0 k1 k2 k3 k4 k5 j0 j1 j2 j3 j4 j5
    obtain ⟨k0, k1, k2, k3, k4, k5, -⟩ := xsa6.cell6
    obtain ⟨j0, j1, j2, j3, j4, j5, -⟩ := xsb6.cell6
    have bq : Below w6.heap.size w6 (w6.alloc (.cells #[.bool p, .slice A n c, .int .i64 e, .bool q, .slice A' n' c', .int .i64 f, .bool s, .slice B m k, .int .i64 i, .bool t, .slice B' m' k', .int .i64 j] 26)) := below_alloc (below_self _) _
    have hd := dvs_four (⟨p, A, n, c, xs, e⟩ : DV) ⟨q, A', n', c', ys, f⟩ ⟨s, B, m, k, us, i⟩ ⟨t, B', m', k', vs, j⟩ (box_new w6 _ 26) (hA.below bq) (hA'.below bq) (hC.below bq) (hC'.below bq)
    have hk7 := hk6.later bq
    have xr7 := xr6.later bq
    have gw7 := grown_on gw bq
    go_wp2_with fail
    refine (MI.out _ _ hd).mono ?_
    rintro r w8 ⟨A1, n1, c1, rfl, a1, hb8⟩
    have hd8 := hd.later hb8
    clear k0 k1 k2 k3 k4 k5 j0 j1 j2 j3 j4 j5
    go_wp2_with fail
    refine (MA.out _ _ hd8).mono ?_
    rintro r w9 ⟨A2, n2, c2, rfl, a2, hb9⟩
    have a1 := a1.below hb9
    have hk9 := (hk7.later hb8).later hb9
    have xr9 := (xr7.later hb8).later hb9
    have gw9 := grown_on (grown_on gw7 hb8) hb9
    go_wp2_with fail
    refine (give_ok g P LL.neg UU.neg A1 A2 n1 c1 n2 c2 LL.e UU.e w9 hk9).mono ?_
    rintro r w10 ⟨rfl, hb10⟩
    have xr10 := xr9.later hb10
    go_wp2_with (refine wp_put6 rfl _ _ rfl rfl (w.heap.size + 1 + 1) _ A1 n1 c1 _ _ A2 n2 c2 _ xr10 rfl rfl (fun W1 y1 gW1 => ?_); obtain ⟨z3, z4, z5, z6, z7, z8, -⟩ := y1.cell6)
    refine bodyPost_ret (v := _) ?_ rfl (retSp_put (o := some (LL, UU)) (a1.below hb10) (a2.below hb10) xr10 (hk9.later hb10) (grown_on gw9 hb10) (show g ≠ w.heap.size + 1 + 1 by omega) (by omega) gW1)
    simp [results, Tryd.results14, go_sem, z3, z4, z5, z6, z7, z8]
  · rw [if_neg (by decide)]
    go_enter Tryd.func14, Tryd.ntmps14
    go_wp2_with fail
    refine TK.out.mono ?_
    rintro r w6 ⟨rfl, hk6, g6⟩
    have xr6 := xr.grown g6 (show w.heap.size + 1 + 1 ≠ g by omega)
    have gw := grown_trans (grown_of b5 (some g)) g6
    go_wp2_with (refine wp_put6 rfl _ _ rfl rfl (w.heap.size + 1 + 1) false none 0 0 0 false none 0 0 0 xr6 rfl rfl (fun W1 y1 gW1 => ?_); have hk9 := hk6.other gW1 (show g ≠ w.heap.size + 1 + 1 by omega); obtain ⟨u0, u1, u2, u3, u4, u5, -⟩ := y1.cell6)
    refine bodyPost_ret (v := .agg #[.bool false, .slice none 0 0, .int .i64 0, .bool false, .slice none 0 0, .int .i64 0]) ?_ rfl (retSp_none hk9 (grown_own gw gW1 (by omega)))
    simp [results, Tryd.results14, go_sem, u0, u1, u2, u3, u4, u5]
end Go.Proofs.YteffemhapnbaeaaDoor
