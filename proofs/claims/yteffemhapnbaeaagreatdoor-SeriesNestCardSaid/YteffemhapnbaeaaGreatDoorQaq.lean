/- Walks and laws that the claim's row needs. No conditions. -/
import Derived.Test.YteffemhapnbaeaaGreatDoorQao
import Derived.Deep.RegionHeld3
import Derived.Test.YteffemhapnbaeaaGreatDoorQak
import Derived.Test.YteffemhapnbaeaaGreatDoorQah
set_option maxHeartbeats 16000000
set_option linter.unusedSimpArgs false
set_option linter.unusedVariables false
namespace Go.Proofs.YteffemhapnbaeaaGreatDoor
open Go.RowKit Num
variable {tw : TypeId}
set_option maxRecDepth 100000
theorem Hu {bad : Bool} {P : Int} {p q s t : Bool} {A A' B B' : Option Addr} {n c n' c' m k m' k' : Nat} {xs ys us vs : List Int} {e f i j : Int} (h : Bx bad P [(⟨p, A, n, c, xs, e, q, A', n', c', ys, f⟩ : SVal), (⟨s, B, m, k, us, i, t, B', m', k', vs, j⟩ : SVal)] = false) :
  Bq p xs e = true ∧ Bq q ys f = true ∧ Bq s us i = true ∧ Bq t vs j = true := by
 unfold Bx at h
 simp only [List.all_cons, List.all_nil, Bool.and_true, SVal.right, Bool.or_eq_false_iff, decide_eq_false_iff_not, Bool.not_eq_false', Bool.and_eq_true] at h
 obtain ⟨-, ra, rb⟩ := h
 unfold Cb Gj at ra rb
 simp only [Bool.and_eq_true] at ra rb
 exact ⟨ra.1.1, ra.1.2, rb.1.1, rb.1.2⟩
theorem Bji (p q s t : Bool) (A A' B B' : Option Addr) (n c n' c' m k m' k' : Nat) (xs ys us vs : List Int) (e f i j P : Int) (g : Nat) (bad : Bool) (w : World)
  (h : Arr w A n c xs) (h' : Arr w A' n' c' ys) (hB : Arr w B m k us) (hB' : Arr w B' m' k' vs) (hk : Wk w g P bad tw) :
  Calls Tryz.prog 148 #[.pointer (some ⟨g, 0, none⟩), .agg #[.bool p, .slice A n c, .int .i64 e, .bool q, .slice A' n' c', .int .i64 f], .agg #[.bool s, .slice B m k, .int .i64 i, .bool t, .slice B' m' k', .int .i64 j]] w
   (Dx (if Bx bad P [(⟨p, A, n, c, xs, e, q, A', n', c', ys, f⟩ : SVal), (⟨s, B, m, k, us, i, t, B', m', k', vs, j⟩ : SVal)] = false then some (Cy false (⟨p, val xs, e⟩ : Dy) (⟨q, val ys, f⟩ : Dy) (⟨s, val us, i⟩ : Dy) (⟨t, val vs, j⟩ : Dy), Cy true (⟨p, val xs, e⟩ : Dy) (⟨q, val ys, f⟩ : Dy) (⟨s, val us, i⟩ : Dy) (⟨t, val vs, j⟩ : Dy)) else none) g P tw w) := by
 have hg := hk.lt
 have b2 : Below w.heap.size w (w.alloc (.cells #[.bool p, .slice A n c, .int .i64 e, .bool q, .slice A' n' c', .int .i64 f] 28)) := Ba (Bb w) _
 have b3 : Below w.heap.size w ((w.alloc (.cells #[.bool p, .slice A n c, .int .i64 e, .bool q, .slice A' n' c', .int .i64 f] 28)).alloc (.cells #[.bool s, .slice B m k, .int .i64 i, .bool t, .slice B' m' k', .int .i64 j] 28)) := Ba b2 _
 have b4 : Below w.heap.size w (((w.alloc (.cells #[.bool p, .slice A n c, .int .i64 e, .bool q, .slice A' n' c', .int .i64 f] 28)).alloc (.cells #[.bool s, .slice B m k, .int .i64 i, .bool t, .slice B' m' k', .int .i64 j] 28)).alloc (.cells #[.bool false, .slice none 0 0, .int .i64 0, .bool false, .slice none 0 0, .int .i64 0] 28)) := Ba b3 _
 have b5 : Below w.heap.size w ((((w.alloc (.cells #[.bool p, .slice A n c, .int .i64 e, .bool q, .slice A' n' c', .int .i64 f] 28)).alloc (.cells #[.bool s, .slice B m k, .int .i64 i, .bool t, .slice B' m' k', .int .i64 j] 28)).alloc (.cells #[.bool false, .slice none 0 0, .int .i64 0, .bool false, .slice none 0 0, .int .i64 0] 28)).alloc (.cells #[.bool p, .slice A n c, .int .i64 e, .bool q, .slice A' n' c', .int .i64 f, .bool s, .slice B m k, .int .i64 i, .bool t, .slice B' m' k', .int .i64 j] 28)) := Ba b4 _
 have s2 : (w.alloc (.cells #[.bool p, .slice A n c, .int .i64 e, .bool q, .slice A' n' c', .int .i64 f] 28)).heap.size = w.heap.size + 1 := by simp
 have s3 : ((w.alloc (.cells #[.bool p, .slice A n c, .int .i64 e, .bool q, .slice A' n' c', .int .i64 f] 28)).alloc (.cells #[.bool s, .slice B m k, .int .i64 i, .bool t, .slice B' m' k', .int .i64 j] 28)).heap.size = w.heap.size + 1 + 1 := by simp
 have s4 : (((w.alloc (.cells #[.bool p, .slice A n c, .int .i64 e, .bool q, .slice A' n' c', .int .i64 f] 28)).alloc (.cells #[.bool s, .slice B m k, .int .i64 i, .bool t, .slice B' m' k', .int .i64 j] 28)).alloc (.cells #[.bool false, .slice none 0 0, .int .i64 0, .bool false, .slice none 0 0, .int .i64 0] 28)).heap.size = w.heap.size + 1 + 1 + 1 := by simp
 have xsa := (Bg w #[.bool p, .slice A n c, .int .i64 e, .bool q, .slice A' n' c', .int .i64 f] 28).later (Ba (Ba (Ba (Bb _) (.cells #[.bool s, .slice B m k, .int .i64 i, .bool t, .slice B' m' k', .int .i64 j] 28)) (.cells #[.bool false, .slice none 0 0, .int .i64 0, .bool false, .slice none 0 0, .int .i64 0] 28)) (.cells #[.bool p, .slice A n c, .int .i64 e, .bool q, .slice A' n' c', .int .i64 f, .bool s, .slice B m k, .int .i64 i, .bool t, .slice B' m' k', .int .i64 j] 28))
 have xsb := (Bg (w.alloc (.cells #[.bool p, .slice A n c, .int .i64 e, .bool q, .slice A' n' c', .int .i64 f] 28)) #[.bool s, .slice B m k, .int .i64 i, .bool t, .slice B' m' k', .int .i64 j] 28).later (Ba (Ba (Bb _) (.cells #[.bool false, .slice none 0 0, .int .i64 0, .bool false, .slice none 0 0, .int .i64 0] 28)) (.cells #[.bool p, .slice A n c, .int .i64 e, .bool q, .slice A' n' c', .int .i64 f, .bool s, .slice B m k, .int .i64 i, .bool t, .slice B' m' k', .int .i64 j] 28))
 have xr := (Bg ((w.alloc (.cells #[.bool p, .slice A n c, .int .i64 e, .bool q, .slice A' n' c', .int .i64 f] 28)).alloc (.cells #[.bool s, .slice B m k, .int .i64 i, .bool t, .slice B' m' k', .int .i64 j] 28)) #[.bool false, .slice none 0 0, .int .i64 0, .bool false, .slice none 0 0, .int .i64 0] 28).later (Ba (Bb _) (.cells #[.bool p, .slice A n c, .int .i64 e, .bool q, .slice A' n' c', .int .i64 f, .bool s, .slice B m k, .int .i64 i, .bool t, .slice B' m' k', .int .i64 j] 28))
 have xl := Bg (((w.alloc (.cells #[.bool p, .slice A n c, .int .i64 e, .bool q, .slice A' n' c', .int .i64 f] 28)).alloc (.cells #[.bool s, .slice B m k, .int .i64 i, .bool t, .slice B' m' k', .int .i64 j] 28)).alloc (.cells #[.bool false, .slice none 0 0, .int .i64 0, .bool false, .slice none 0 0, .int .i64 0] 28)) #[.bool p, .slice A n c, .int .i64 e, .bool q, .slice A' n' c', .int .i64 f, .bool s, .slice B m k, .int .i64 i, .bool t, .slice B' m' k', .int .i64 j] 28
 rw [s2] at xsb
 rw [s3] at xr
 rw [s4] at xl
 have hk5 := hk.later b5
 have TK := Mk g (w.heap.size + 1 + 1 + 1) 2 P bad [(⟨p, A, n, c, xs, e, q, A', n', c', ys, f⟩ : SVal), (⟨s, B, m, k, us, i, t, B', m', k', vs, j⟩ : SVal)] rfl _ hk5 (Jb (⟨p, A, n, c, xs, e, q, A', n', c', ys, f⟩ : SVal) (⟨s, B, m, k, us, i, t, B', m', k', vs, j⟩ : SVal) xl ⟨h.below b5, h'.below b5⟩ ⟨hB.below b5, hB'.below b5⟩) (by omega) (by decide)
 obtain ⟨k0, k1, k2, k3, k4, k5, -⟩ := (Bg w #[.bool p, .slice A n c, .int .i64 e, .bool q, .slice A' n' c', .int .i64 f] 28).later (Ba (Ba (Bb _) (.cells #[.bool s, .slice B m k, .int .i64 i, .bool t, .slice B' m' k', .int .i64 j] 28)) (.cells #[.bool false, .slice none 0 0, .int .i64 0, .bool false, .slice none 0 0, .int .i64 0] 28)) |>.cell6
 obtain ⟨j0, j1, j2, j3, j4, j5, -⟩ := (Bg (w.alloc (.cells #[.bool p, .slice A n c, .int .i64 e, .bool q, .slice A' n' c', .int .i64 f] 28)) #[.bool s, .slice B m k, .int .i64 i, .bool t, .slice B' m' k', .int .i64 j] 28).later (Ba (Bb _) (.cells #[.bool false, .slice none 0 0, .int .i64 0, .bool false, .slice none 0 0, .int .i64 0] 28)) |>.cell6
 rw [s2] at j0 j1 j2 j3 j4 j5
 have TP : Bx bad P [(⟨p, A, n, c, xs, e, q, A', n', c', ys, f⟩ : SVal), (⟨s, B, m, k, us, i, t, B', m', k', vs, j⟩ : SVal)] = false → _ := Hu
 generalize Bx bad P [(⟨p, A, n, c, xs, e, q, A', n', c', ys, f⟩ : SVal), (⟨s, B, m, k, us, i, t, B', m', k', vs, j⟩ : SVal)] = tb at *
 have TK := Be TK
 have TP := Be TP
 clear s2 s3 s4 b2 b3 b4 xl
 cases tb
 ·rw [if_pos rfl]
  obtain ⟨p1, p2, p3, p4⟩ := TP.out rfl
  have v1 := (Bm h.wf p1).2.2.1
  have v2 := (Bm h'.wf p2).2.2.1
  have v3 := (Bm hB.wf p3).2.2.1
  have v4 := (Bm hB'.wf p4).2.2.1
  have MI := fun w' hh hd => Tm (D1 := (⟨p, val xs, e⟩ : Dy)) (D2 := (⟨q, val ys, f⟩ : Dy)) (D3 := (⟨s, val us, i⟩ : Dy)) (D4 := (⟨t, val vs, j⟩ : Dy)) (h := hh) (A1 := A) (A2 := A') (A3 := B) (A4 := B') (n1 := n) (c1 := c) (n2 := n') (c2 := c') (n3 := m) (c3 := k) (n4 := m') (c4 := k') w' hd
  have MA := fun w' hh hd => Tl (D1 := (⟨p, val xs, e⟩ : Dy)) (D2 := (⟨q, val ys, f⟩ : Dy)) (D3 := (⟨s, val us, i⟩ : Dy)) (D4 := (⟨t, val vs, j⟩ : Dy)) (h := hh) (A1 := A) (A2 := A') (A3 := B) (A4 := B') (n1 := n) (c1 := c) (n2 := n') (c2 := c') (n3 := m) (c3 := k) (n4 := m') (c4 := k') w' hd
  simp only [v1, v2, v3, v4] at MI MA
  generalize Cy false (⟨p, val xs, e⟩ : Dy) (⟨q, val ys, f⟩ : Dy) (⟨s, val us, i⟩ : Dy) (⟨t, val vs, j⟩ : Dy) = LL at *
  generalize Cy true (⟨p, val xs, e⟩ : Dy) (⟨q, val ys, f⟩ : Dy) (⟨s, val us, i⟩ : Dy) (⟨t, val vs, j⟩ : Dy) = UU at *
  have MI := Be MI
  have MA := Be MA
  clear p1 p2 p3 p4 v1 v2 v3 v4 TP
  go_enter Tryz.func148, Tryz.ntmps148
  go_wp2_with fail
  refine TK.out.mono ?_
  rintro r w6 ⟨rfl, hk6, g6⟩
  have xsa6 := xsa.grown g6 (show w.heap.size ≠ g by omega)
  have xsb6 := xsb.grown g6 (show w.heap.size + 1 ≠ g by omega)
  have xr6 := xr.grown g6 (show w.heap.size + 1 + 1 ≠ g by omega)
  have gw := Bi (Bv b5 (some g)) g6
  have hA := hk.arr h gw
  have hA' := hk.arr h' gw
  have hC := hk.arr hB gw
  have hC' := hk.arr hB' gw
  clear k0 k1 k2 k3 k4 k5 j0 j1 j2 j3 j4 j5
  obtain ⟨k0, k1, k2, k3, k4, k5, -⟩ := xsa6.cell6
  obtain ⟨j0, j1, j2, j3, j4, j5, -⟩ := xsb6.cell6
  have bq : Below w6.heap.size w6 (w6.alloc (.cells #[.bool p, .slice A n c, .int .i64 e, .bool q, .slice A' n' c', .int .i64 f, .bool s, .slice B m k, .int .i64 i, .bool t, .slice B' m' k', .int .i64 j] 26)) := Ba (Bb _) _
  have hd := Wr (⟨p, A, n, c, xs, e⟩ : DV) ⟨q, A', n', c', ys, f⟩ ⟨s, B, m, k, us, i⟩ ⟨t, B', m', k', vs, j⟩ (Bg w6 _ 26) (hA.below bq) (hA'.below bq) (hC.below bq) (hC'.below bq)
  have hk7 := hk6.later bq
  have xr7 := xr6.later bq
  have gw7 := Bp gw bq
  go_wp2_with fail
  refine (MI.out _ _ hd).mono ?_
  rintro r w8 ⟨A1, n1, c1, rfl, a1, hb8⟩
  have hd8 := hd.later hb8
  clear k0 k1 k2 k3 k4 k5 j0 j1 j2 j3 j4 j5
  go_wp2_with fail
  refine (MA.out _ _ hd8).mono ?_
  rintro r w9 ⟨A2, n2, c2, rfl, a2, hb9⟩
  have a1 := a1.below hb9
  have hk9 := (hk7.later hb8).later hb9
  have xr9 := (xr7.later hb8).later hb9
  have gw9 := Bp (Bp gw7 hb8) hb9
  go_wp2_with fail
  refine (Rs g P LL.neg UU.neg A1 A2 n1 c1 n2 c2 LL.e UU.e w9 hk9).mono ?_
  rintro r w10 ⟨rfl, hb10⟩
  have xr10 := xr9.later hb10
  go_wp2_with (refine Bt rfl _ _ rfl rfl (w.heap.size + 1 + 1) _ A1 n1 c1 _ _ A2 n2 c2 _ xr10 rfl rfl (fun W1 y1 gW1 => ?_); obtain ⟨z3, z4, z5, z6, z7, z8, -⟩ := y1.cell6)
  refine bodyPost_ret (v := _) ?_ rfl (Ff (o := some (LL, UU)) (a1.below hb10) (a2.below hb10) xr10 (hk9.later hb10) (Bp gw9 hb10) (show g ≠ w.heap.size + 1 + 1 by omega) (by omega) gW1)
  simp [results, Tryz.results148, go_sem, z3, z4, z5, z6, z7, z8]
 ·rw [if_neg (by decide)]
  go_enter Tryz.func148, Tryz.ntmps148
  go_wp2_with fail
  refine TK.out.mono ?_
  rintro r w6 ⟨rfl, hk6, g6⟩
  have xr6 := xr.grown g6 (show w.heap.size + 1 + 1 ≠ g by omega)
  have gw := Bi (Bv b5 (some g)) g6
  go_wp2_with (refine Bt rfl _ _ rfl rfl (w.heap.size + 1 + 1) false none 0 0 0 false none 0 0 0 xr6 rfl rfl (fun W1 y1 gW1 => ?_); have hk9 := hk6.other gW1 (show g ≠ w.heap.size + 1 + 1 by omega); obtain ⟨u0, u1, u2, u3, u4, u5, -⟩ := y1.cell6)
  refine bodyPost_ret (v := .agg #[.bool false, .slice none 0 0, .int .i64 0, .bool false, .slice none 0 0, .int .i64 0]) ?_ rfl (Cl hk9 (Cd gw gW1 (by omega)))
  simp [results, Tryz.results148, go_sem, u0, u1, u2, u3, u4, u5]
theorem Vq {D1 D2 : Dy} {A1 A2 : Option Addr} {n1 c1 n2 c2 : Nat} (h : Nat) (w : World) (hd : DVs w h [⟨D1.neg, A1, n1, c1, wd D1.m, D1.e⟩, ⟨D2.neg, A2, n2, c2, wd D2.m, D2.e⟩]) (h1 : n1 ≤ 1000000) (h2 : n2 ≤ 1000000) :
  Calls Tryz.prog 51 #[.slice (some ⟨h, 0, none⟩) 2 2, .bool false] w (Us (Dn false D1 D2) w) := by
 refine (Xr h 2 2 _ rfl w hd (Nat.zero_lt_succ _) (by decide) (fun d hd => by
  simp at hd
  rcases hd with rfl | rfl
  ·exact h1
  ·exact h2)).mono ?_
 rintro r w' ⟨rfl, ha, hb⟩
 have hr : Rep (Cc false [⟨D1.neg, A1, n1, c1, wd D1.m, D1.e⟩, ⟨D2.neg, A2, n2, c2, wd D2.m, D2.e⟩]) (Dn false D1 D2) := Ld ⟨rfl, rfl, rfl⟩ ⟨rfl, rfl, rfl⟩
 rw [hr.xs] at ha
 exact ⟨_, _, _, by rw [hr.neg, hr.e], ha.below hb, hb⟩
theorem Vr {D1 D2 : Dy} {A1 A2 : Option Addr} {n1 c1 n2 c2 : Nat} (h : Nat) (w : World) (hd : DVs w h [⟨D1.neg, A1, n1, c1, wd D1.m, D1.e⟩, ⟨D2.neg, A2, n2, c2, wd D2.m, D2.e⟩]) (h1 : n1 ≤ 1000000) (h2 : n2 ≤ 1000000) :
  Calls Tryz.prog 51 #[.slice (some ⟨h, 0, none⟩) 2 2, .bool true] w (Us (Dn true D1 D2) w) := by
 refine (Xs h 2 2 _ rfl w hd (Nat.zero_lt_succ _) (by decide) (fun d hd => by
  simp at hd
  rcases hd with rfl | rfl
  ·exact h1
  ·exact h2)).mono ?_
 rintro r w' ⟨rfl, ha, hb⟩
 have hr : Rep (Cc true [⟨D1.neg, A1, n1, c1, wd D1.m, D1.e⟩, ⟨D2.neg, A2, n2, c2, wd D2.m, D2.e⟩]) (Dn true D1 D2) := Ld ⟨rfl, rfl, rfl⟩ ⟨rfl, rfl, rfl⟩
 rw [hr.xs] at ha
 exact ⟨_, _, _, by rw [hr.neg, hr.e], ha.below hb, hb⟩
theorem Bfq (p q s t : Bool) (A A' B B' : Option Addr) (n c n' c' m k m' k' : Nat) (xs ys us vs : List Int) (e f i j P : Int) (g : Nat) (bad : Bool) (w : World)
  (h : Arr w A n c xs) (h' : Arr w A' n' c' ys) (hB : Arr w B m k us) (hB' : Arr w B' m' k' vs) (hk : Wk w g P bad 38) (hn : n ≤ 100000) (hn' : n' ≤ 100000) (hm : m ≤ 100000) (hm' : m' ≤ 100000) :
  Calls Tryz.prog 127 #[.pointer (some ⟨g, 0, none⟩), .agg #[.bool p, .slice A n c, .int .i64 e, .bool q, .slice A' n' c', .int .i64 f], .agg #[.bool s, .slice B m k, .int .i64 i, .bool t, .slice B' m' k', .int .i64 j]] w
   (Dx (if Bx bad P [(⟨p, A, n, c, xs, e, q, A', n', c', ys, f⟩ : SVal), (⟨s, B, m, k, us, i, t, B', m', k', vs, j⟩ : SVal)] = false then some (Dn false (⟨p, val xs, e⟩ : Dy) (⟨s, val us, i⟩ : Dy), Dn true (⟨q, val ys, f⟩ : Dy) (⟨t, val vs, j⟩ : Dy)) else none) g P 38 w) := by
 have hg := hk.lt
 have b2 : Below w.heap.size w (w.alloc (.cells #[.bool p, .slice A n c, .int .i64 e, .bool q, .slice A' n' c', .int .i64 f] 28)) := Ba (Bb w) _
 have b3 : Below w.heap.size w ((w.alloc (.cells #[.bool p, .slice A n c, .int .i64 e, .bool q, .slice A' n' c', .int .i64 f] 28)).alloc (.cells #[.bool s, .slice B m k, .int .i64 i, .bool t, .slice B' m' k', .int .i64 j] 28)) := Ba b2 _
 have b4 : Below w.heap.size w (((w.alloc (.cells #[.bool p, .slice A n c, .int .i64 e, .bool q, .slice A' n' c', .int .i64 f] 28)).alloc (.cells #[.bool s, .slice B m k, .int .i64 i, .bool t, .slice B' m' k', .int .i64 j] 28)).alloc (.cells #[.bool false, .slice none 0 0, .int .i64 0, .bool false, .slice none 0 0, .int .i64 0] 28)) := Ba b3 _
 have b5 : Below w.heap.size w ((((w.alloc (.cells #[.bool p, .slice A n c, .int .i64 e, .bool q, .slice A' n' c', .int .i64 f] 28)).alloc (.cells #[.bool s, .slice B m k, .int .i64 i, .bool t, .slice B' m' k', .int .i64 j] 28)).alloc (.cells #[.bool false, .slice none 0 0, .int .i64 0, .bool false, .slice none 0 0, .int .i64 0] 28)).alloc (.cells #[.bool p, .slice A n c, .int .i64 e, .bool q, .slice A' n' c', .int .i64 f, .bool s, .slice B m k, .int .i64 i, .bool t, .slice B' m' k', .int .i64 j] 28)) := Ba b4 _
 have s2 : (w.alloc (.cells #[.bool p, .slice A n c, .int .i64 e, .bool q, .slice A' n' c', .int .i64 f] 28)).heap.size = w.heap.size + 1 := by simp
 have s3 : ((w.alloc (.cells #[.bool p, .slice A n c, .int .i64 e, .bool q, .slice A' n' c', .int .i64 f] 28)).alloc (.cells #[.bool s, .slice B m k, .int .i64 i, .bool t, .slice B' m' k', .int .i64 j] 28)).heap.size = w.heap.size + 1 + 1 := by simp
 have s4 : (((w.alloc (.cells #[.bool p, .slice A n c, .int .i64 e, .bool q, .slice A' n' c', .int .i64 f] 28)).alloc (.cells #[.bool s, .slice B m k, .int .i64 i, .bool t, .slice B' m' k', .int .i64 j] 28)).alloc (.cells #[.bool false, .slice none 0 0, .int .i64 0, .bool false, .slice none 0 0, .int .i64 0] 28)).heap.size = w.heap.size + 1 + 1 + 1 := by simp
 have xsa := (Bg w #[.bool p, .slice A n c, .int .i64 e, .bool q, .slice A' n' c', .int .i64 f] 28).later (Ba (Ba (Ba (Bb _) (.cells #[.bool s, .slice B m k, .int .i64 i, .bool t, .slice B' m' k', .int .i64 j] 28)) (.cells #[.bool false, .slice none 0 0, .int .i64 0, .bool false, .slice none 0 0, .int .i64 0] 28)) (.cells #[.bool p, .slice A n c, .int .i64 e, .bool q, .slice A' n' c', .int .i64 f, .bool s, .slice B m k, .int .i64 i, .bool t, .slice B' m' k', .int .i64 j] 28))
 have xsb := (Bg (w.alloc (.cells #[.bool p, .slice A n c, .int .i64 e, .bool q, .slice A' n' c', .int .i64 f] 28)) #[.bool s, .slice B m k, .int .i64 i, .bool t, .slice B' m' k', .int .i64 j] 28).later (Ba (Ba (Bb _) (.cells #[.bool false, .slice none 0 0, .int .i64 0, .bool false, .slice none 0 0, .int .i64 0] 28)) (.cells #[.bool p, .slice A n c, .int .i64 e, .bool q, .slice A' n' c', .int .i64 f, .bool s, .slice B m k, .int .i64 i, .bool t, .slice B' m' k', .int .i64 j] 28))
 have xr := (Bg ((w.alloc (.cells #[.bool p, .slice A n c, .int .i64 e, .bool q, .slice A' n' c', .int .i64 f] 28)).alloc (.cells #[.bool s, .slice B m k, .int .i64 i, .bool t, .slice B' m' k', .int .i64 j] 28)) #[.bool false, .slice none 0 0, .int .i64 0, .bool false, .slice none 0 0, .int .i64 0] 28).later (Ba (Bb _) (.cells #[.bool p, .slice A n c, .int .i64 e, .bool q, .slice A' n' c', .int .i64 f, .bool s, .slice B m k, .int .i64 i, .bool t, .slice B' m' k', .int .i64 j] 28))
 have xl := Bg (((w.alloc (.cells #[.bool p, .slice A n c, .int .i64 e, .bool q, .slice A' n' c', .int .i64 f] 28)).alloc (.cells #[.bool s, .slice B m k, .int .i64 i, .bool t, .slice B' m' k', .int .i64 j] 28)).alloc (.cells #[.bool false, .slice none 0 0, .int .i64 0, .bool false, .slice none 0 0, .int .i64 0] 28)) #[.bool p, .slice A n c, .int .i64 e, .bool q, .slice A' n' c', .int .i64 f, .bool s, .slice B m k, .int .i64 i, .bool t, .slice B' m' k', .int .i64 j] 28
 rw [s2] at xsb
 rw [s3] at xr
 rw [s4] at xl
 have hk5 := hk.later b5
 have TK := Hk g (w.heap.size + 1 + 1 + 1) 2 P bad [(⟨p, A, n, c, xs, e, q, A', n', c', ys, f⟩ : SVal), (⟨s, B, m, k, us, i, t, B', m', k', vs, j⟩ : SVal)] rfl _ hk5 (Jb (⟨p, A, n, c, xs, e, q, A', n', c', ys, f⟩ : SVal) (⟨s, B, m, k, us, i, t, B', m', k', vs, j⟩ : SVal) xl ⟨h.below b5, h'.below b5⟩ ⟨hB.below b5, hB'.below b5⟩) (by omega) (by decide) (fun s hs => by
  simp at hs
  rcases hs with rfl | rfl
  ·exact ⟨by show n ≤ 1000000; omega, by show n' ≤ 1000000; omega⟩
  ·exact ⟨by show m ≤ 1000000; omega, by show m' ≤ 1000000; omega⟩)
 obtain ⟨k0, k1, k2, k3, k4, k5, -⟩ := (Bg w #[.bool p, .slice A n c, .int .i64 e, .bool q, .slice A' n' c', .int .i64 f] 28).later (Ba (Ba (Bb _) (.cells #[.bool s, .slice B m k, .int .i64 i, .bool t, .slice B' m' k', .int .i64 j] 28)) (.cells #[.bool false, .slice none 0 0, .int .i64 0, .bool false, .slice none 0 0, .int .i64 0] 28)) |>.cell6
 obtain ⟨j0, j1, j2, j3, j4, j5, -⟩ := (Bg (w.alloc (.cells #[.bool p, .slice A n c, .int .i64 e, .bool q, .slice A' n' c', .int .i64 f] 28)) #[.bool s, .slice B m k, .int .i64 i, .bool t, .slice B' m' k', .int .i64 j] 28).later (Ba (Bb _) (.cells #[.bool false, .slice none 0 0, .int .i64 0, .bool false, .slice none 0 0, .int .i64 0] 28)) |>.cell6
 rw [s2] at j0 j1 j2 j3 j4 j5
 have TP : Bx bad P [(⟨p, A, n, c, xs, e, q, A', n', c', ys, f⟩ : SVal), (⟨s, B, m, k, us, i, t, B', m', k', vs, j⟩ : SVal)] = false → _ := Hu
 generalize Bx bad P [(⟨p, A, n, c, xs, e, q, A', n', c', ys, f⟩ : SVal), (⟨s, B, m, k, us, i, t, B', m', k', vs, j⟩ : SVal)] = tb at *
 have TK := Be TK
 have TP := Be TP
 clear s2 s3 s4 b2 b3 b4 xl
 cases tb
 ·rw [if_pos rfl]
  obtain ⟨p1, p2, p3, p4⟩ := TP.out rfl
  have v1 := (Bm h.wf p1).2.2.1
  have v2 := (Bm h'.wf p2).2.2.1
  have v3 := (Bm hB.wf p3).2.2.1
  have v4 := (Bm hB'.wf p4).2.2.1
  have MI := fun w' hh hd => Vq (D1 := (⟨p, val xs, e⟩ : Dy)) (D2 := (⟨s, val us, i⟩ : Dy)) (A1 := A) (A2 := B) (n1 := n) (c1 := c) (n2 := m) (c2 := k) hh w' hd (by omega) (by omega)
  have MA := fun w' hh hd => Vr (D1 := (⟨q, val ys, f⟩ : Dy)) (D2 := (⟨t, val vs, j⟩ : Dy)) (A1 := A') (A2 := B') (n1 := n') (c1 := c') (n2 := m') (c2 := k') hh w' hd (by omega) (by omega)
  simp only [v1, v2, v3, v4] at MI MA
  generalize Dn false (⟨p, val xs, e⟩ : Dy) (⟨s, val us, i⟩ : Dy) = LL at *
  generalize Dn true (⟨q, val ys, f⟩ : Dy) (⟨t, val vs, j⟩ : Dy) = UU at *
  have MI := Be MI
  have MA := Be MA
  clear p1 p2 p3 p4 v1 v2 v3 v4 TP
  go_enter Tryz.func127, Tryz.ntmps127
  go_wp2_with fail
  refine TK.out.mono ?_
  rintro r w6 ⟨rfl, hk6, g6⟩
  have xsa6 := xsa.grown g6 (show w.heap.size ≠ g by omega)
  have xsb6 := xsb.grown g6 (show w.heap.size + 1 ≠ g by omega)
  have xr6 := xr.grown g6 (show w.heap.size + 1 + 1 ≠ g by omega)
  have gw := Bi (Bv b5 (some g)) g6
  have hA := hk.arr h gw
  have hA' := hk.arr h' gw
  have hC := hk.arr hB gw
  have hC' := hk.arr hB' gw
  clear k0 k1 k2 k3 k4 k5 j0 j1 j2 j3 j4 j5
  obtain ⟨k0, k1, k2, k3, k4, k5, -⟩ := xsa6.cell6
  obtain ⟨j0, j1, j2, j3, j4, j5, -⟩ := xsb6.cell6
  have KC : ∀ w', Below w6.heap.size w6 w' → ((w'.cell? ⟨w.heap.size, 0, none⟩ = some (.bool p) ∧ w'.cell? ⟨w.heap.size, 1, none⟩ = some (.slice A n c) ∧ w'.cell? ⟨w.heap.size, 2, none⟩ = some (.int .i64 e) ∧ w'.cell? ⟨w.heap.size, 3, none⟩ = some (.bool q) ∧ w'.cell? ⟨w.heap.size, 4, none⟩ = some (.slice A' n' c') ∧ w'.cell? ⟨w.heap.size, 5, none⟩ = some (.int .i64 f)) ∧ w'.cell? ⟨w.heap.size + 1, 0, none⟩ = some (.bool s) ∧ w'.cell? ⟨w.heap.size + 1, 1, none⟩ = some (.slice B m k) ∧ w'.cell? ⟨w.heap.size + 1, 2, none⟩ = some (.int .i64 i) ∧ w'.cell? ⟨w.heap.size + 1, 3, none⟩ = some (.bool t) ∧ w'.cell? ⟨w.heap.size + 1, 4, none⟩ = some (.slice B' m' k') ∧ w'.cell? ⟨w.heap.size + 1, 5, none⟩ = some (.int .i64 j)) := by
   intro w' hb
   obtain ⟨z0, z1, z2, z3, z4, z5, -⟩ := (xsa6.later hb).cell6
   obtain ⟨y0, y1, y2, y3, y4, y5, -⟩ := (xsb6.later hb).cell6
   exact ⟨⟨z0, z1, z2, z3, z4, z5⟩, ⟨y0, y1, y2, y3, y4, y5⟩⟩
  have KC := Be KC
  have E1 : ∀ W z, Below w6.heap.size w6 W → z = W.heap.size → ∀ w', Below (W.alloc (.cells #[.bool p, .slice A n c, .int .i64 e, .bool s, .slice B m k, .int .i64 i] 26)).heap.size (W.alloc (.cells #[.bool p, .slice A n c, .int .i64 e, .bool s, .slice B m k, .int .i64 i] 26)) w' → Calls Tryz.prog 51 #[.slice (some ⟨z, 0, none⟩) 2 2, .bool false] w' fun r w'' => ∃ A5 n5 c5, r = .returned (.agg #[.bool LL.neg, .slice A5 n5 c5, .int .i64 LL.e]) ∧ Arr w'' A5 n5 c5 (wd LL.m) ∧ Below w'.heap.size w' w'' ∧ Below w6.heap.size w6 w'' := by
   rintro W z hW rfl w' hb
   refine (MI.out w' W.heap.size ((Ha p s A B n c m k xs us e i (hA.below hW) (hC.below hW) 26).later hb)).mono ?_
   rintro r w'' ⟨A5, n5, c5, e5, h5, hb5⟩
   exact ⟨A5, n5, c5, e5, h5, hb5, Bc (Bc (Ba hW _) hb) hb5⟩
  have E2 : ∀ W z, Below w6.heap.size w6 W → z = W.heap.size → ∀ w', Below (W.alloc (.cells #[.bool q, .slice A' n' c', .int .i64 f, .bool t, .slice B' m' k', .int .i64 j] 26)).heap.size (W.alloc (.cells #[.bool q, .slice A' n' c', .int .i64 f, .bool t, .slice B' m' k', .int .i64 j] 26)) w' → Calls Tryz.prog 51 #[.slice (some ⟨z, 0, none⟩) 2 2, .bool true] w' fun r w'' => ∃ A5 n5 c5, r = .returned (.agg #[.bool UU.neg, .slice A5 n5 c5, .int .i64 UU.e]) ∧ Arr w'' A5 n5 c5 (wd UU.m) ∧ Below w'.heap.size w' w'' ∧ Below w6.heap.size w6 w'' := by
   rintro W z hW rfl w' hb
   refine (MA.out w' W.heap.size ((Ha q t A' B' n' c' m' k' ys vs f j (hA'.below hW) (hC'.below hW) 26).later hb)).mono ?_
   rintro r w'' ⟨A5, n5, c5, e5, h5, hb5⟩
   exact ⟨A5, n5, c5, e5, h5, hb5, Bc (Bc (Ba hW _) hb) hb5⟩
  have E1 := Be E1
  have E2 := Be E2
  have XR := Be (fun w' (hb : Below w6.heap.size w6 w') => (xr6.later hb).cell6)
  obtain ⟨⟨k0, k1, k2, k3, k4, k5⟩, ⟨j0, j1, j2, j3, j4, j5⟩⟩ := KC.out w6 (Bb _)
  have FIN := Be (fun w' X u v Y k j (h1 : Arr w' X u v (wd LL.m)) (h2 : Arr w' Y k j (wd UU.m)) (hb : Below w6.heap.size w6 w') => Ti (w := w) h1 h2 (xr6.later hb) (hk6.later hb) (Bp gw hb) (show g ≠ w.heap.size + 1 + 1 by omega) (by omega))
  have KC2 : ∀ w', Below w6.heap.size w6 w' → ∀ p1 B1 n1 c1 e1 q1 B2 n2 c2 f1 W2, W2 = Xu w' (w.heap.size + 1 + 1) p1 B1 n1 c1 e1 q1 B2 n2 c2 f1 → ((W2.cell? ⟨w.heap.size, 0, none⟩ = some (.bool p) ∧ W2.cell? ⟨w.heap.size, 1, none⟩ = some (.slice A n c) ∧ W2.cell? ⟨w.heap.size, 2, none⟩ = some (.int .i64 e) ∧ W2.cell? ⟨w.heap.size, 3, none⟩ = some (.bool q) ∧ W2.cell? ⟨w.heap.size, 4, none⟩ = some (.slice A' n' c') ∧ W2.cell? ⟨w.heap.size, 5, none⟩ = some (.int .i64 f)) ∧ W2.cell? ⟨w.heap.size + 1, 0, none⟩ = some (.bool s) ∧ W2.cell? ⟨w.heap.size + 1, 1, none⟩ = some (.slice B m k) ∧ W2.cell? ⟨w.heap.size + 1, 2, none⟩ = some (.int .i64 i) ∧ W2.cell? ⟨w.heap.size + 1, 3, none⟩ = some (.bool t) ∧ W2.cell? ⟨w.heap.size + 1, 4, none⟩ = some (.slice B' m' k') ∧ W2.cell? ⟨w.heap.size + 1, 5, none⟩ = some (.int .i64 j)) := by
   rintro w' hb p1 B1 n1 c1 e1 q1 B2 n2 c2 f1 _ rfl
   have g6 := Gb w' (w.heap.size + 1 + 1) p1 B1 n1 c1 e1 q1 B2 n2 c2 f1
   obtain ⟨z0, z1, z2, z3, z4, z5, -⟩ := ((xsa6.later hb).grown g6 (show w.heap.size ≠ w.heap.size + 1 + 1 by omega)).cell6
   obtain ⟨y0, y1, y2, y3, y4, y5, -⟩ := ((xsb6.later hb).grown g6 (show w.heap.size + 1 ≠ w.heap.size + 1 + 1 by omega)).cell6
   exact ⟨⟨z0, z1, z2, z3, z4, z5⟩, ⟨y0, y1, y2, y3, y4, y5⟩⟩
  have KC2 := Be KC2
  go_wp2_with fail
  go_region_held3 (fun w' => ((w'.cell? ⟨w.heap.size, 0, none⟩ = some (.bool p) ∧ w'.cell? ⟨w.heap.size, 1, none⟩ = some (.slice A n c) ∧ w'.cell? ⟨w.heap.size, 2, none⟩ = some (.int .i64 e) ∧ w'.cell? ⟨w.heap.size, 3, none⟩ = some (.bool q) ∧ w'.cell? ⟨w.heap.size, 4, none⟩ = some (.slice A' n' c') ∧ w'.cell? ⟨w.heap.size, 5, none⟩ = some (.int .i64 f)) ∧ w'.cell? ⟨w.heap.size + 1, 0, none⟩ = some (.bool s) ∧ w'.cell? ⟨w.heap.size + 1, 1, none⟩ = some (.slice B m k) ∧ w'.cell? ⟨w.heap.size + 1, 2, none⟩ = some (.int .i64 i) ∧ w'.cell? ⟨w.heap.size + 1, 3, none⟩ = some (.bool t) ∧ w'.cell? ⟨w.heap.size + 1, 4, none⟩ = some (.slice B' m' k') ∧ w'.cell? ⟨w.heap.size + 1, 5, none⟩ = some (.int .i64 j))) (first | (refine KC.out _ ?_; (repeat with_reducible (first | assumption | exact Bb _ | refine Bd ?_ _ | apply Below.drew | refine Ba ?_ _)); done) | (refine KC2.out _ ?_ _ _ _ _ _ _ _ _ _ _ _ rfl; (repeat with_reducible (first | assumption | exact Bb _ | refine Bd ?_ _ | apply Below.drew | refine Ba ?_ _)); done) | go_keep) (first | (go_at_call_of 51 (Value.bool false); (first | (refine (E1.out w6 _ ?_ ?_ _ ?_).mono ?_; (focus ((repeat with_reducible (first | assumption | exact Bb _ | refine Bd ?_ _ | apply Below.drew | refine Ba ?_ _)); done)); (focus (first | rfl | (simp; done))); (focus ((repeat (first | with_reducible assumption | with_reducible exact Bb _ | with_reducible exact Bc (Ba (Bb _) _) hbX | with_reducible refine Bd ?_ _ | with_reducible apply Below.drew | with_reducible refine Ba ?_ _)); done))) | (refine (E1.out (w6.alloc (.cells #[.bool q, .slice A' n' c', .int .i64 f, .bool t, .slice B' m' k', .int .i64 j] 26)) _ ?_ ?_ _ ?_).mono ?_; (focus ((repeat with_reducible (first | assumption | exact Bb _ | refine Bd ?_ _ | apply Below.drew | refine Ba ?_ _)); done)); (focus (first | rfl | (simp; done))); (focus ((repeat (first | with_reducible assumption | with_reducible exact Bb _ | with_reducible exact Bc (Ba (Bb _) _) hbX | with_reducible refine Bd ?_ _ | with_reducible apply Below.drew | with_reducible refine Ba ?_ _)); done)))); rintro r w8 ⟨A1, n1, c1, rfl, a1, hb8, hB8⟩; have hbX := Bc (Below.drew (Bb _)) hb8) | (go_at_call_of 51 (Value.bool true); (first | (refine (E2.out w8 _ ?_ ?_ _ ?_).mono ?_; (focus ((repeat with_reducible (first | assumption | exact Bb _ | refine Bd ?_ _ | apply Below.drew | refine Ba ?_ _)); done)); (focus (first | rfl | (simp; done))); (focus ((repeat (first | with_reducible assumption | with_reducible exact Bb _ | with_reducible exact Bc (Ba (Bb _) _) hbX | with_reducible refine Bd ?_ _ | with_reducible apply Below.drew | with_reducible refine Ba ?_ _)); done))) | (refine (E2.out (w6.alloc (.cells #[.bool p, .slice A n c, .int .i64 e, .bool s, .slice B m k, .int .i64 i] 26)) _ ?_ ?_ _ ?_).mono ?_; (focus ((repeat with_reducible (first | assumption | exact Bb _ | refine Bd ?_ _ | apply Below.drew | refine Ba ?_ _)); done)); (focus (first | rfl | (simp; done))); (focus ((repeat (first | with_reducible assumption | with_reducible exact Bb _ | with_reducible exact Bc (Ba (Bb _) _) hbX | with_reducible refine Bd ?_ _ | with_reducible apply Below.drew | with_reducible refine Ba ?_ _)); done))) | (refine (E2.out w6 _ ?_ ?_ _ ?_).mono ?_; (focus ((repeat with_reducible (first | assumption | exact Bb _ | refine Bd ?_ _ | apply Below.drew | refine Ba ?_ _)); done)); (focus (first | rfl | (simp; done))); (focus ((repeat (first | with_reducible assumption | with_reducible exact Bb _ | with_reducible exact Bc (Ba (Bb _) _) hbX | with_reducible refine Bd ?_ _ | with_reducible apply Below.drew | with_reducible refine Ba ?_ _)); done)))); rintro r w9 ⟨A2, n2, c2, rfl, a2, hb9, hB9⟩; have a1 := Arr.below (Arr.below a1 ((by repeat with_reducible (first | assumption | exact Bb _ | refine Bd ?_ _ | apply Below.drew | refine Ba ?_ _)))) hb9; obtain ⟨u0, u1, u2, u3, u4, u5, fz0, fz1, fz2, fz3, fz4, fz5⟩ := XR.out _ hB9))
  all_goals
   go_wp2_with fail
   refine bodyPost_ret (v := _) ?_ rfl (FIN.out _ _ _ _ _ _ _ a1 a2 hB9)
   simp [results, Tryz.results127, go_sem, u0, u1, u2, u3, u4, u5]
 ·rw [if_neg (by decide)]
  go_enter Tryz.func127, Tryz.ntmps127
  go_wp2_with fail
  refine TK.out.mono ?_
  rintro r w6 ⟨rfl, hk6, g6⟩
  have xr6 := xr.grown g6 (show w.heap.size + 1 + 1 ≠ g by omega)
  have gw := Bi (Bv b5 (some g)) g6
  go_wp2_with (refine Bt rfl _ _ rfl rfl (w.heap.size + 1 + 1) false none 0 0 0 false none 0 0 0 xr6 rfl rfl (fun W1 y1 gW1 => ?_); have hk9 := hk6.other gW1 (show g ≠ w.heap.size + 1 + 1 by omega); obtain ⟨u0, u1, u2, u3, u4, u5, -⟩ := y1.cell6)
  refine bodyPost_ret (v := .agg #[.bool false, .slice none 0 0, .int .i64 0, .bool false, .slice none 0 0, .int .i64 0]) ?_ rfl (Cl hk9 (Cd gw gW1 (by omega)))
  simp [results, Tryz.results127, go_sem, u0, u1, u2, u3, u4, u5]
theorem Bjj (p q : Bool) (A A' : Option Addr) (n c n' c' : Nat) (xs ys : List Int) (e f P : Int) (g : Nat) (w : World) (h : Arr w A n c xs) (h' : Arr w A' n' c' ys) (hT : Tz w) (hk : Wk w g P false tw) :
  Calls Tryz.prog 45 #[.pointer (some ⟨g, 0, none⟩), .agg #[.bool p, .slice A n c, .int .i64 e], .agg #[.bool q, .slice A' n' c', .int .i64 f]] w (Dx (Fn false (Du p xs e P false) (Du q ys f P true)) g P tw w) := by
 have hg := hk.lt
 have b1 := Ba (Bb w) (.cells #[.bool p, .slice A n c, .int .i64 e] 26)
 have b2 := Ba b1 (.cells #[.bool q, .slice A' n' c', .int .i64 f] 26)
 have b3 : Below w.heap.size w (((w.alloc (.cells #[.bool p, .slice A n c, .int .i64 e] 26)).alloc (.cells #[.bool q, .slice A' n' c', .int .i64 f] 26)).alloc (.cells #[.bool false, .slice none 0 0, .int .i64 0, .bool false, .slice none 0 0, .int .i64 0] 28)) := Ba b2 _
 have xa7 := (Bg w #[.bool p, .slice A n c, .int .i64 e] 26).later (Ba (Ba (Bb _) (.cells #[.bool q, .slice A' n' c', .int .i64 f] 26)) (.cells #[.bool false, .slice none 0 0, .int .i64 0, .bool false, .slice none 0 0, .int .i64 0] 28))
 have xb7 := (Bg (w.alloc (.cells #[.bool p, .slice A n c, .int .i64 e] 26)) #[.bool q, .slice A' n' c', .int .i64 f] 26).later (Ba (Bb _) (.cells #[.bool false, .slice none 0 0, .int .i64 0, .bool false, .slice none 0 0, .int .i64 0] 28))
 rw [show (w.alloc (.cells #[.bool p, .slice A n c, .int .i64 e] 26)).heap.size = w.heap.size + 1 by simp] at xb7
 have xr7 := Bg ((w.alloc (.cells #[.bool p, .slice A n c, .int .i64 e] 26)).alloc (.cells #[.bool q, .slice A' n' c', .int .i64 f] 26)) #[.bool false, .slice none 0 0, .int .i64 0, .bool false, .slice none 0 0, .int .i64 0] 28
 rw [show ((w.alloc (.cells #[.bool p, .slice A n c, .int .i64 e] 26)).alloc (.cells #[.bool q, .slice A' n' c', .int .i64 f] 26)).heap.size = w.heap.size + 1 + 1 by simp] at xr7
 have hk7 := hk.later b3
 have gw7 := Bv b3 (some g)
 have hA7 := h.below b3
 have hA7' := h'.below b3
 have hT7 := hT.below b3
 generalize hW : (((w.alloc (.cells #[.bool p, .slice A n c, .int .i64 e] 26)).alloc (.cells #[.bool q, .slice A' n' c', .int .i64 f] 26)).alloc (.cells #[.bool false, .slice none 0 0, .int .i64 0, .bool false, .slice none 0 0, .int .i64 0] 28)) = w7 at *
 have HW := Be hW
 clear hW
 have z1 := Jn (o := Du p xs e P false)
 have z2 := Jn (o := Du q ys f P true)
 have ho : Fn false (Du p xs e P false) (Du q ys f P true) = Cr (!((Du p xs e P false).isSome && (Du q ys f P true).isSome)) (Ci (Du p xs e P false)) (Ci (Du q ys f P true)) := rfl
 rw [ho]
 have D1 := fun w' (h2 : Arr w' A n c xs) (hT2 : Tz w') => Wl p A n c xs e P false w' h2 hT2
 have D2 := fun w' (h2 : Arr w' A' n' c' ys) (hT2 : Tz w') => Wl q A' n' c' ys f P true w' h2 hT2
 unfold He at D1 D2
 clear ho
 generalize (Du p xs e P false).isSome = k1 at *
 generalize (Du q ys f P true).isSome = k2 at *
 generalize Ci (Du p xs e P false) = E1 at *
 generalize Ci (Du q ys f P true) = E2 at *
 obtain ⟨s1, m1, f1⟩ := E1
 obtain ⟨s2, m2, f2⟩ := E2
 simp only at z1 z2 D1 D2
 have D1 := Be D1
 have D2 := Be D2
 have z1 := Be z1
 have z2 := Be z2
 have R1 : ∀ w', w7.grownBy w' (some g) → Calls Tryz.prog 76 #[.agg #[.bool p, .slice A n c, .int .i64 e], .int .i64 P, .bool false] w' fun r w'' => ∃ A5 n5 c5, r = .returned (.tuple #[.agg #[.bool s1, .slice A5 n5 c5, .int .i64 f1], .bool k1]) ∧ Arr w'' A5 n5 c5 (wd m1) ∧ Below w'.heap.size w' w'' ∧ w7.grownBy w'' (some g) := by
  intro w' hG
  refine (D1.out w' (hk7.arr hA7 hG) (hk7.tz hT7 hG)).mono ?_
  rintro r w'' ⟨A5, n5, c5, rfl, h5, hb⟩
  exact ⟨A5, n5, c5, rfl, h5, hb, Bp hG hb⟩
 have R2 : ∀ w', w7.grownBy w' (some g) → Calls Tryz.prog 76 #[.agg #[.bool q, .slice A' n' c', .int .i64 f], .int .i64 P, .bool true] w' fun r w'' => ∃ A5 n5 c5, r = .returned (.tuple #[.agg #[.bool s2, .slice A5 n5 c5, .int .i64 f2], .bool k2]) ∧ Arr w'' A5 n5 c5 (wd m2) ∧ Below w'.heap.size w' w'' ∧ w7.grownBy w'' (some g) := by
  intro w' hG
  refine (D2.out w' (hk7.arr hA7' hG) (hk7.tz hT7 hG)).mono ?_
  rintro r w'' ⟨A5, n5, c5, rfl, h5, hb⟩
  exact ⟨A5, n5, c5, rfl, h5, hb, Bp hG hb⟩
 have M1 : ∀ A5 n5 c5 w' b, Wk w' g P b tw → Arr w' A5 n5 c5 (wd m1) → w7.grownBy w' (some g) → Calls Tryz.prog 43 #[.pointer (some ⟨g, 0, none⟩), .agg #[.bool s1, .slice A5 n5 c5, .int .i64 f1], .bool k1] w' fun r w'' => ∃ B k j, r = .returned (.agg #[.bool s1, .slice B k j, .int .i64 f1]) ∧ Arr w'' B k j (wd m1) ∧ Wk w'' g P (b || !k1) tw ∧ w'.grownBy w'' (some g) ∧ w7.grownBy w'' (some g) := by
  intro A5 n5 c5 w' b hk' ha hG
  refine (Sx g P b k1 s1 m1 f1 A5 n5 c5 w' hk' ha z1.out).mono ?_
  rintro r w'' ⟨B, k, j, rfl, hB, hk2, hg2⟩
  exact ⟨B, k, j, rfl, hB, hk2, hg2, Bi hG hg2⟩
 have M2 : ∀ A5 n5 c5 w' b, Wk w' g P b tw → Arr w' A5 n5 c5 (wd m2) → w7.grownBy w' (some g) → Calls Tryz.prog 43 #[.pointer (some ⟨g, 0, none⟩), .agg #[.bool s2, .slice A5 n5 c5, .int .i64 f2], .bool k2] w' fun r w'' => ∃ B k j, r = .returned (.agg #[.bool s2, .slice B k j, .int .i64 f2]) ∧ Arr w'' B k j (wd m2) ∧ Wk w'' g P (b || !k2) tw ∧ w'.grownBy w'' (some g) ∧ w7.grownBy w'' (some g) := by
  intro A5 n5 c5 w' b hk' ha hG
  refine (Sx g P b k2 s2 m2 f2 A5 n5 c5 w' hk' ha z2.out).mono ?_
  rintro r w'' ⟨B, k, j, rfl, hB, hk2, hg2⟩
  exact ⟨B, k, j, rfl, hB, hk2, hg2, Bi hG hg2⟩
 have GV : ∀ B1 x1 y1 B2 x2 y2 w' b, Wk w' g P b tw → Arr w' B1 x1 y1 (wd m1) → Arr w' B2 x2 y2 (wd m2) → w7.grownBy w' (some g) → Calls Tryz.prog 34 #[.pointer (some ⟨g, 0, none⟩), .agg #[.bool s1, .slice B1 x1 y1, .int .i64 f1], .agg #[.bool s2, .slice B2 x2 y2, .int .i64 f2]] w' fun r w'' => ∃ X u v Y k j, r = .returned (.agg #[.bool ((Cr b ⟨s1, m1, f1⟩ ⟨s2, m2, f2⟩).getD (Dy.zero, Dy.zero)).1.neg, .slice X u v, .int .i64 ((Cr b ⟨s1, m1, f1⟩ ⟨s2, m2, f2⟩).getD (Dy.zero, Dy.zero)).1.e, .bool ((Cr b ⟨s1, m1, f1⟩ ⟨s2, m2, f2⟩).getD (Dy.zero, Dy.zero)).2.neg, .slice Y k j, .int .i64 ((Cr b ⟨s1, m1, f1⟩ ⟨s2, m2, f2⟩).getD (Dy.zero, Dy.zero)).2.e]) ∧
  Arr w'' X u v (wd ((Cr b ⟨s1, m1, f1⟩ ⟨s2, m2, f2⟩).getD (Dy.zero, Dy.zero)).1.m) ∧ Arr w'' Y k j (wd ((Cr b ⟨s1, m1, f1⟩ ⟨s2, m2, f2⟩).getD (Dy.zero, Dy.zero)).2.m) ∧ Below w'.heap.size w' w'' ∧ w7.grownBy w'' (some g) := by
  intro B1 x1 y1 B2 x2 y2 w' b hk' ha hb hG
  refine (Yv g P b s1 s2 m1 f1 m2 f2 B1 B2 x1 y1 x2 y2 w' hk' ha hb).mono ?_
  rintro r w'' ⟨X, u, v, Y, k, j, rfl, hX, hY, hb2⟩
  exact ⟨X, u, v, Y, k, j, rfl, hX, hY, hb2, Bp hG hb2⟩
 have KC : ∀ w', w7.grownBy w' (some g) → (∃ b, Wk w' g P b tw) → ((w'.cell? ⟨w.heap.size, 0, none⟩ = some (.bool p) ∧ w'.cell? ⟨w.heap.size, 1, none⟩ = some (.slice A n c) ∧ w'.cell? ⟨w.heap.size, 2, none⟩ = some (.int .i64 e) ∧ w'.cell? ⟨w.heap.size + 1, 0, none⟩ = some (.bool q) ∧ w'.cell? ⟨w.heap.size + 1, 1, none⟩ = some (.slice A' n' c') ∧ w'.cell? ⟨w.heap.size + 1, 2, none⟩ = some (.int .i64 f)) ∧ w'.cell? ⟨g, 0, none⟩ = some (.int .i64 P)) := by
  intro w' hG hb
  obtain ⟨b, hb⟩ := hb
  obtain ⟨z0, z1, z2, -, -, -⟩ := (xa7.grown hG (show w.heap.size ≠ g by omega)).cell3
  obtain ⟨z3, z4, z5, -, -, -⟩ := (xb7.grown hG (show w.heap.size + 1 ≠ g by omega)).cell3
  exact ⟨⟨z0, z1, z2, z3, z4, z5⟩, hb.cells.1⟩
 have KC2 : ∀ w' b, w7.grownBy w' (some g) → Wk w' g P b tw → ∀ p1 B n1 c1 e1 q1 B' n2 c2 f1 W2, W2 = Xu w' (w.heap.size + 1 + 1) p1 B n1 c1 e1 q1 B' n2 c2 f1 → ((W2.cell? ⟨w.heap.size, 0, none⟩ = some (.bool p) ∧ W2.cell? ⟨w.heap.size, 1, none⟩ = some (.slice A n c) ∧ W2.cell? ⟨w.heap.size, 2, none⟩ = some (.int .i64 e) ∧ W2.cell? ⟨w.heap.size + 1, 0, none⟩ = some (.bool q) ∧ W2.cell? ⟨w.heap.size + 1, 1, none⟩ = some (.slice A' n' c') ∧ W2.cell? ⟨w.heap.size + 1, 2, none⟩ = some (.int .i64 f)) ∧ W2.cell? ⟨g, 0, none⟩ = some (.int .i64 P)) := by
  rintro w' b hG hb p1 B n1 c1 e1 q1 B' n2 c2 f1 _ rfl
  have g6 := Gb w' (w.heap.size + 1 + 1) p1 B n1 c1 e1 q1 B' n2 c2 f1
  obtain ⟨z0, z1, z2, -, -, -⟩ := ((xa7.grown hG (show w.heap.size ≠ g by omega)).grown g6 (show w.heap.size ≠ w.heap.size + 1 + 1 by omega)).cell3
  obtain ⟨z3, z4, z5, -, -, -⟩ := ((xb7.grown hG (show w.heap.size + 1 ≠ g by omega)).grown g6 (show w.heap.size + 1 ≠ w.heap.size + 1 + 1 by omega)).cell3
  exact ⟨⟨z0, z1, z2, z3, z4, z5⟩, (hb.other g6 (show g ≠ w.heap.size + 1 + 1 by omega)).cells.1⟩
 have XR := fun w' (hG : w7.grownBy w' (some g)) => (xr7.grown hG (show w.heap.size + 1 + 1 ≠ g by omega)).cell6
 have FIN := fun w' b X u v Y k j (h1 : Arr w' X u v (wd ((Cr b ⟨s1, m1, f1⟩ ⟨s2, m2, f2⟩).getD (Dy.zero, Dy.zero)).1.m)) (h2 : Arr w' Y k j (wd ((Cr b ⟨s1, m1, f1⟩ ⟨s2, m2, f2⟩).getD (Dy.zero, Dy.zero)).2.m)) (hk' : Wk w' g P b tw) (hG : w7.grownBy w' (some g)) => Qv (w := w) (o := Cr b ⟨s1, m1, f1⟩ ⟨s2, m2, f2⟩) (P := P) (tw := tw) h1 h2 (xr7.grown hG (show w.heap.size + 1 + 1 ≠ g by omega)) (by rw [Gx]; exact hk') (Bi gw7 hG) (show g ≠ w.heap.size + 1 + 1 by omega) (by omega)
 have hG : w7.grownBy w7 (some g) := Do _ _
 obtain ⟨⟨j0, j1, j2, j3, j4, j5⟩, j6⟩ := KC w7 hG ⟨_, hk7⟩
 have KC := Be KC
 have KC2 := Be KC2
 have XR := Be XR
 have FIN := Be FIN
 have R1 := Be R1
 have R2 := Be R2
 have M1 := Be M1
 have M2 := Be M2
 have GV := Be GV
 have hk0 := hk
 have hk := hk7
 clear xa7 xb7 xr7 hA7 hA7' hT7 hk7 gw7 b1 b2 b3 hk0 h h' hT D1 D2 z1 z2
 go_enter Tryz.func45, Tryz.ntmps45
 go_wp2_with fail
 rw [HW.out]
 go_region_held3 (fun w' => ((w'.cell? ⟨w.heap.size, 0, none⟩ = some (.bool p) ∧ w'.cell? ⟨w.heap.size, 1, none⟩ = some (.slice A n c) ∧ w'.cell? ⟨w.heap.size, 2, none⟩ = some (.int .i64 e) ∧ w'.cell? ⟨w.heap.size + 1, 0, none⟩ = some (.bool q) ∧ w'.cell? ⟨w.heap.size + 1, 1, none⟩ = some (.slice A' n' c') ∧ w'.cell? ⟨w.heap.size + 1, 2, none⟩ = some (.int .i64 f)) ∧ w'.cell? ⟨g, 0, none⟩ = some (.int .i64 P))) (first | (refine KC.out _ ?_ ?_; (focus ((first | with_reducible exact hG | with_reducible exact Ce hG))); (first | with_reducible exact ⟨_, hk⟩ | with_reducible exact ⟨_, Wk.drew hk⟩); done) | (refine KC2.out _ _ ?_ hk _ _ _ _ _ _ _ _ _ _ _ rfl; ((first | with_reducible exact hG | with_reducible exact Ce hG)); done) | go_keep) (first | (go_at_call_of 76 (Value.bool false); refine (R1.out _ ?_).mono ?_; ((first | with_reducible exact hG | with_reducible exact Ce hG)); rintro r w1 ⟨A1, n1, c1, rfl, a1, hc, hG⟩; (try have a2 := Arr.below (Arr.below a2 ((by repeat with_reducible (first | assumption | exact Bb _ | refine Bd ?_ _ | apply Below.drew | refine Ba ?_ _)))) hc); (try have b1 := Arr.below (Arr.below b1 ((by repeat with_reducible (first | assumption | exact Bb _ | refine Bd ?_ _ | apply Below.drew | refine Ba ?_ _)))) hc); (try have b2 := Arr.below (Arr.below b2 ((by repeat with_reducible (first | assumption | exact Bb _ | refine Bd ?_ _ | apply Below.drew | refine Ba ?_ _)))) hc); have hk := Wk.later (Wk.later hk ((by repeat with_reducible (first | assumption | exact Bb _ | refine Bd ?_ _ | apply Below.drew | refine Ba ?_ _)))) hc) | (go_at_call_of 76 (Value.bool true); refine (R2.out _ ?_).mono ?_; ((first | with_reducible exact hG | with_reducible exact Ce hG)); rintro r w2 ⟨A2, n2, c2, rfl, a2, hc, hG⟩; (try have a1 := Arr.below (Arr.below a1 ((by repeat with_reducible (first | assumption | exact Bb _ | refine Bd ?_ _ | apply Below.drew | refine Ba ?_ _)))) hc); (try have b1 := Arr.below (Arr.below b1 ((by repeat with_reducible (first | assumption | exact Bb _ | refine Bd ?_ _ | apply Below.drew | refine Ba ?_ _)))) hc); (try have b2 := Arr.below (Arr.below b2 ((by repeat with_reducible (first | assumption | exact Bb _ | refine Bd ?_ _ | apply Below.drew | refine Ba ?_ _)))) hc); have hk := Wk.later (Wk.later hk ((by repeat with_reducible (first | assumption | exact Bb _ | refine Bd ?_ _ | apply Below.drew | refine Ba ?_ _)))) hc) | (go_at_call_of 43 (Value.bool k1); refine (M1.out _ _ _ _ _ (Wk.later hk ((by repeat with_reducible (first | assumption | exact Bb _ | refine Bd ?_ _ | apply Below.drew | refine Ba ?_ _)))) (Arr.below a1 ((by repeat with_reducible (first | assumption | exact Bb _ | refine Bd ?_ _ | apply Below.drew | refine Ba ?_ _)))) ?_).mono ?_; ((first | with_reducible exact hG | with_reducible exact Ce hG)); rintro r w3 ⟨B1, x1, y1, rfl, b1, hk3, hc, hG⟩; (try have a2 := Wk.arr (Wk.later hk ((by repeat with_reducible (first | assumption | exact Bb _ | refine Bd ?_ _ | apply Below.drew | refine Ba ?_ _)))) (Arr.below a2 ((by repeat with_reducible (first | assumption | exact Bb _ | refine Bd ?_ _ | apply Below.drew | refine Ba ?_ _)))) hc); (try have b2 := Wk.arr (Wk.later hk ((by repeat with_reducible (first | assumption | exact Bb _ | refine Bd ?_ _ | apply Below.drew | refine Ba ?_ _)))) (Arr.below b2 ((by repeat with_reducible (first | assumption | exact Bb _ | refine Bd ?_ _ | apply Below.drew | refine Ba ?_ _)))) hc); clear a1; have hk := hk3) | (go_at_call_of 43 (Value.bool k2); refine (M2.out _ _ _ _ _ (Wk.later hk ((by repeat with_reducible (first | assumption | exact Bb _ | refine Bd ?_ _ | apply Below.drew | refine Ba ?_ _)))) (Arr.below a2 ((by repeat with_reducible (first | assumption | exact Bb _ | refine Bd ?_ _ | apply Below.drew | refine Ba ?_ _)))) ?_).mono ?_; ((first | with_reducible exact hG | with_reducible exact Ce hG)); rintro r w4 ⟨B2, x2, y2, rfl, b2, hk4, hc, hG⟩; (try have a1 := Wk.arr (Wk.later hk ((by repeat with_reducible (first | assumption | exact Bb _ | refine Bd ?_ _ | apply Below.drew | refine Ba ?_ _)))) (Arr.below a1 ((by repeat with_reducible (first | assumption | exact Bb _ | refine Bd ?_ _ | apply Below.drew | refine Ba ?_ _)))) hc); (try have b1 := Wk.arr (Wk.later hk ((by repeat with_reducible (first | assumption | exact Bb _ | refine Bd ?_ _ | apply Below.drew | refine Ba ?_ _)))) (Arr.below b1 ((by repeat with_reducible (first | assumption | exact Bb _ | refine Bd ?_ _ | apply Below.drew | refine Ba ?_ _)))) hc); clear a2; have hk := hk4) | (go_at_call 34; refine (GV.out _ _ _ _ _ _ _ _ (Wk.later hk ((by repeat with_reducible (first | assumption | exact Bb _ | refine Bd ?_ _ | apply Below.drew | refine Ba ?_ _)))) (Arr.below b1 ((by repeat with_reducible (first | assumption | exact Bb _ | refine Bd ?_ _ | apply Below.drew | refine Ba ?_ _)))) (Arr.below b2 ((by repeat with_reducible (first | assumption | exact Bb _ | refine Bd ?_ _ | apply Below.drew | refine Ba ?_ _)))) ?_).mono ?_; ((first | with_reducible exact hG | with_reducible exact Ce hG)); rintro r w5 ⟨X1, i1, j1, X2, i2, j2, rfl, e1, e2, hc, hG⟩; have hk := Wk.later (Wk.later hk ((by repeat with_reducible (first | assumption | exact Bb _ | refine Bd ?_ _ | apply Below.drew | refine Ba ?_ _)))) hc; obtain ⟨u0, u1, u2, u3, u4, u5, u6⟩ := XR.out _ hG))
 all_goals
  cases k1 <;> cases k2
  all_goals
   go_wp2_with fail
   refine bodyPost_ret (v := _) ?_ rfl (FIN.out _ _ _ _ _ _ _ _ e1 e2 hk hG)
   simp [results, Tryz.results45, go_sem, u0, u1, u2, u3, u4, u5]
   try rfl
   try simp [Cr]
theorem spout (p q : Bool) (A A' : Option Addr) (n c n' c' : Nat) (xs ys : List Int) (e f P : Int) (g : Nat) (bad : Bool) (w : World) (h : Arr w A n c xs) (h' : Arr w A' n' c' ys) (hT : Tz w) (hk : Wk w g P bad tw) :
  Calls Tryz.prog 90 #[.pointer (some ⟨g, 0, none⟩), (.agg #[.bool p, .slice A n c, .int .i64 e, .bool q, .slice A' n' c', .int .i64 f])] w (Dx (Fn (Bx bad P [⟨p, A, n, c, xs, e, q, A', n', c', ys, f⟩]) (Du p xs e P false) (Du q ys f P true)) g P tw w) := by
 have hg := hk.lt
 have b1 := Ba (Bb w) (.cells #[.bool p, .slice A n c, .int .i64 e, .bool q, .slice A' n' c', .int .i64 f] 28)
 have b2 := Ba b1 (.cells #[.bool false, .slice none 0 0, .int .i64 0, .bool false, .slice none 0 0, .int .i64 0] 28)
 have b3 : Below w.heap.size w (((w.alloc (.cells #[.bool p, .slice A n c, .int .i64 e, .bool q, .slice A' n' c', .int .i64 f] 28)).alloc (.cells #[.bool false, .slice none 0 0, .int .i64 0, .bool false, .slice none 0 0, .int .i64 0] 28)).alloc (.cells #[.bool p, .slice A n c, .int .i64 e, .bool q, .slice A' n' c', .int .i64 f] 28)) := Ba b2 _
 have xa := (Bg w #[.bool p, .slice A n c, .int .i64 e, .bool q, .slice A' n' c', .int .i64 f] 28).later (Ba (Ba (Bb _) (.cells #[.bool false, .slice none 0 0, .int .i64 0, .bool false, .slice none 0 0, .int .i64 0] 28)) (.cells #[.bool p, .slice A n c, .int .i64 e, .bool q, .slice A' n' c', .int .i64 f] 28))
 have xr := (Bg (w.alloc (.cells #[.bool p, .slice A n c, .int .i64 e, .bool q, .slice A' n' c', .int .i64 f] 28)) #[.bool false, .slice none 0 0, .int .i64 0, .bool false, .slice none 0 0, .int .i64 0] 28).later (Ba (Bb _) (.cells #[.bool p, .slice A n c, .int .i64 e, .bool q, .slice A' n' c', .int .i64 f] 28))
 rw [show (w.alloc (.cells #[.bool p, .slice A n c, .int .i64 e, .bool q, .slice A' n' c', .int .i64 f] 28)).heap.size = w.heap.size + 1 by simp] at xr
 have xl := Bg ((w.alloc (.cells #[.bool p, .slice A n c, .int .i64 e, .bool q, .slice A' n' c', .int .i64 f] 28)).alloc (.cells #[.bool false, .slice none 0 0, .int .i64 0, .bool false, .slice none 0 0, .int .i64 0] 28)) #[.bool p, .slice A n c, .int .i64 e, .bool q, .slice A' n' c', .int .i64 f] 28
 rw [show ((w.alloc (.cells #[.bool p, .slice A n c, .int .i64 e, .bool q, .slice A' n' c', .int .i64 f] 28)).alloc (.cells #[.bool false, .slice none 0 0, .int .i64 0, .bool false, .slice none 0 0, .int .i64 0] 28)).heap.size = w.heap.size + 1 + 1 by simp] at xl
 have hk3 := hk.later b3
 have TK := Mk g (w.heap.size + 1 + 1) 1 P bad [⟨p, A, n, c, xs, e, q, A', n', c', ys, f⟩] rfl _ hk3 (Ja xl (h.below b3) (h'.below b3)) (by omega) (by decide)
 obtain ⟨t0, t1, t2, t3, t4, t5, -⟩ := ((Bg w #[.bool p, .slice A n c, .int .i64 e, .bool q, .slice A' n' c', .int .i64 f] 28).later (Ba (Bb _) (.cells #[.bool false, .slice none 0 0, .int .i64 0, .bool false, .slice none 0 0, .int .i64 0] 28))).cell6
 generalize Bx bad P [⟨p, A, n, c, xs, e, q, A', n', c', ys, f⟩] = tb at *
 have TK := Be TK
 clear xl
 cases tb
 ·have OU := fun w' (h1 : Arr w' A n c xs) (h2 : Arr w' A' n' c' ys) (hT2 : Tz w') (hk2 : Wk w' g P false tw) => Bjj p q A A' n c n' c' xs ys e f P g w' h1 h2 hT2 hk2
  generalize Fn false (Du p xs e P false) (Du q ys f P true) = o at *
  have OU := Be OU
  go_enter Tryz.func90, Tryz.ntmps90
  go_wp2_with fail
  refine TK.out.mono ?_
  rintro r w7 ⟨rfl, hk7, g7⟩
  have xa7 := xa.grown g7 (show w.heap.size ≠ g by omega)
  have xr7 := xr.grown g7 (show w.heap.size + 1 ≠ g by omega)
  have gw7 := Bi (Bv b3 (some g)) g7
  have hA7 := hk.arr h gw7
  have hA7' := hk.arr h' gw7
  have hT7 := hk.tz hT gw7
  clear t0 t1 t2 t3 t4 t5
  obtain ⟨j0, j1, j2, j3, j4, j5, -⟩ := xa7.cell6
  go_wp2_with fail
  refine (OU.out w7 hA7 hA7' hT7 hk7).mono ?_
  rintro r w11 ⟨X1, u1, v1, X2, u2, v2, rfl, z1, z2, hk11, g11⟩
  have xr11 := xr7.grown g11 (show w.heap.size + 1 ≠ g by omega)
  have gw11 := Bi gw7 g11
  go_wp2_with (refine Bt rfl _ _ rfl rfl (w.heap.size + 1) _ X1 u1 v1 _ _ X2 u2 v2 _ xr11 rfl rfl (fun W1 y1 gW1 => ?_); obtain ⟨z3, z4, z5, z6, z7, z8, -⟩ := y1.cell6)
  refine bodyPost_ret (v := _) ?_ rfl (Ff z1 z2 xr11 hk11 gw11 (show g ≠ w.heap.size + 1 by omega) (by omega) gW1)
  simp [results, Tryz.results90, go_sem, z3, z4, z5, z6, z7, z8]
 ·have ho : Fn true (Du p xs e P false) (Du q ys f P true) = none := rfl
  rw [ho]
  go_enter Tryz.func90, Tryz.ntmps90
  go_wp2_with fail
  refine TK.out.mono ?_
  rintro r w7 ⟨rfl, hk7, g7⟩
  have xr7 := xr.grown g7 (show w.heap.size + 1 ≠ g by omega)
  have gw7 := Bi (Bv b3 (some g)) g7
  go_wp2_with (refine Bt rfl _ _ rfl rfl (w.heap.size + 1) false none 0 0 0 false none 0 0 0 xr7 rfl rfl (fun W1 y1 gW1 => ?_); have hk8 := hk7.other gW1 (show g ≠ w.heap.size + 1 by omega); obtain ⟨u0, u1, u2, u3, u4, u5, -⟩ := y1.cell6)
  refine bodyPost_ret (v := (.agg #[.bool false, .slice none 0 0, .int .i64 0, .bool false, .slice none 0 0, .int .i64 0])) ?_ rfl (Cl hk8 (Cd gw7 gW1 (by omega)))
  simp [results, Tryz.results90, go_sem, u0, u1, u2, u3, u4, u5]
theorem Bam (p q : Bool) (A A' : Option Addr) (n c n' c' : Nat) (xs ys : List Int) (e f P : Int) (g : Nat) (bad : Bool) (w : World) (h : Arr w A n c xs) (h' : Arr w A' n' c' ys) (hk : Wk w g P bad 38) (hn : n ≤ 100000) (hn' : n' ≤ 100000) :
  Calls Tryz.prog 40 #[.pointer (some ⟨g, 0, none⟩), (.agg #[.bool p, .slice A n c, .int .i64 e, .bool q, .slice A' n' c', .int .i64 f])] w (Dx (Fn (Bx bad P [⟨p, A, n, c, xs, e, q, A', n', c', ys, f⟩]) (Ho q ys f) (Ho p xs e)) g P 38 w) := by
 have hg := hk.lt
 have b1 := Ba (Bb w) (.cells #[.bool p, .slice A n c, .int .i64 e, .bool q, .slice A' n' c', .int .i64 f] 28)
 have b2 := Ba b1 (.cells #[.bool false, .slice none 0 0, .int .i64 0, .bool false, .slice none 0 0, .int .i64 0] 28)
 have b3 : Below w.heap.size w (((w.alloc (.cells #[.bool p, .slice A n c, .int .i64 e, .bool q, .slice A' n' c', .int .i64 f] 28)).alloc (.cells #[.bool false, .slice none 0 0, .int .i64 0, .bool false, .slice none 0 0, .int .i64 0] 28)).alloc (.cells #[.bool p, .slice A n c, .int .i64 e, .bool q, .slice A' n' c', .int .i64 f] 28)) := Ba b2 _
 have xa := (Bg w #[.bool p, .slice A n c, .int .i64 e, .bool q, .slice A' n' c', .int .i64 f] 28).later (Ba (Ba (Bb _) (.cells #[.bool false, .slice none 0 0, .int .i64 0, .bool false, .slice none 0 0, .int .i64 0] 28)) (.cells #[.bool p, .slice A n c, .int .i64 e, .bool q, .slice A' n' c', .int .i64 f] 28))
 have xr := (Bg (w.alloc (.cells #[.bool p, .slice A n c, .int .i64 e, .bool q, .slice A' n' c', .int .i64 f] 28)) #[.bool false, .slice none 0 0, .int .i64 0, .bool false, .slice none 0 0, .int .i64 0] 28).later (Ba (Bb _) (.cells #[.bool p, .slice A n c, .int .i64 e, .bool q, .slice A' n' c', .int .i64 f] 28))
 rw [show (w.alloc (.cells #[.bool p, .slice A n c, .int .i64 e, .bool q, .slice A' n' c', .int .i64 f] 28)).heap.size = w.heap.size + 1 by simp] at xr
 have xl := Bg ((w.alloc (.cells #[.bool p, .slice A n c, .int .i64 e, .bool q, .slice A' n' c', .int .i64 f] 28)).alloc (.cells #[.bool false, .slice none 0 0, .int .i64 0, .bool false, .slice none 0 0, .int .i64 0] 28)) #[.bool p, .slice A n c, .int .i64 e, .bool q, .slice A' n' c', .int .i64 f] 28
 rw [show ((w.alloc (.cells #[.bool p, .slice A n c, .int .i64 e, .bool q, .slice A' n' c', .int .i64 f] 28)).alloc (.cells #[.bool false, .slice none 0 0, .int .i64 0, .bool false, .slice none 0 0, .int .i64 0] 28)).heap.size = w.heap.size + 1 + 1 by simp] at xl
 have hk3 := hk.later b3
 have TK := Hk g (w.heap.size + 1 + 1) 1 P bad [⟨p, A, n, c, xs, e, q, A', n', c', ys, f⟩] rfl _ hk3 (Ja xl (h.below b3) (h'.below b3)) (by omega) (by decide) (fun s hs => by
  obtain rfl := List.mem_singleton.1 hs
  exact ⟨by show n ≤ 1000000; omega, by show n' ≤ 1000000; omega⟩)
 obtain ⟨t0, t1, t2, t3, t4, t5, -⟩ := ((Bg w #[.bool p, .slice A n c, .int .i64 e, .bool q, .slice A' n' c', .int .i64 f] 28).later (Ba (Bb _) (.cells #[.bool false, .slice none 0 0, .int .i64 0, .bool false, .slice none 0 0, .int .i64 0] 28))).cell6
 generalize Bx bad P [⟨p, A, n, c, xs, e, q, A', n', c', ys, f⟩] = tb at *
 have TK := Be TK
 clear xl
 cases tb
 ·have ho : Fn false (Ho q ys f) (Ho p xs e) = Cr (!((Ho q ys f).isSome && (Ho p xs e).isSome)) (Ci (Ho q ys f)) (Ci (Ho p xs e)) := rfl
  rw [ho]
  have D1 := fun w' (h2 : Arr w' A' n' c' ys) => Bef q A' n' c' ys f w' h2 (by omega)
  have D2 := fun w' (h2 : Arr w' A n c xs) => Bef p A n c xs e w' h2 (by omega)
  unfold He at D1 D2
  clear ho
  generalize (Ho q ys f).isSome = k1 at *
  generalize (Ho p xs e).isSome = k2 at *
  generalize Ci (Ho q ys f) = E1 at *
  generalize Ci (Ho p xs e) = E2 at *
  obtain ⟨s1, m1, f1⟩ := E1
  obtain ⟨s2, m2, f2⟩ := E2
  simp only at D1 D2
  have D1 := Be D1
  have D2 := Be D2
  go_enter Tryz.func40, Tryz.ntmps40
  go_wp2_with fail
  refine TK.out.mono ?_
  rintro r w7 ⟨rfl, hk7, g7⟩
  have xa7 := xa.grown g7 (show w.heap.size ≠ g by omega)
  have xr7 := xr.grown g7 (show w.heap.size + 1 ≠ g by omega)
  have gw7 := Bi (Bv b3 (some g)) g7
  have hA7 := hk.arr h gw7
  have hA7' := hk.arr h' gw7
  clear t0 t1 t2 t3 t4 t5
  obtain ⟨j0, j1, j2, j3, j4, j5, -⟩ := xa7.cell6
  go_wp2_with fail
  refine (D1.out w7 hA7').mono ?_
  rintro r w8 ⟨A1, n1, c1, rfl, a1, hb1⟩
  have xa8 := xa7.later hb1
  obtain ⟨j0, j1, j2, j3, j4, j5, -⟩ := xa8.cell6
  have y0 := fun o => (xa8.later (Ba (Bb _) o)).cell 0
  have y1 := fun o => (xa8.later (Ba (Bb _) o)).cell 1
  have y2 := fun o => (xa8.later (Ba (Bb _) o)).cell 2
  go_wp2_with fail
  obtain ⟨W9, k9, e1, e2, x9, a9, b9, l9⟩ := Da (w := w7) (s := s1) (f := f1) a1 hb1
  rw [← e1, ← e2]
  have hk9 := hk7.later b9
  have xr9 := xr7.later b9
  have gw9 := Bp gw7 b9
  have hA9 := hA7.below b9
  clear e1 e2 y0 y1 y2 j0 j1 j2 j3 j4 j5
  refine (D2.out W9 hA9).mono ?_
  rintro r w10 ⟨A2, n2, c2, rfl, a2, hb2⟩
  have x9' := x9.later hb2
  have y0 := fun o => (x9'.later (Ba (Bb _) o)).cell 0
  have y1 := fun o => (x9'.later (Ba (Bb _) o)).cell 1
  have y2 := fun o => (x9'.later (Ba (Bb _) o)).cell 2
  obtain ⟨j0, j1, j2, -, -, -⟩ := x9'.cell3
  go_wp2_with fail
  obtain ⟨W10, k10, e1, e2, x10, a10, b10, l10⟩ := Da (w := W9) (s := s2) (f := f2) a2 hb2
  rw [← e1]
  try rw [← e2]
  have a9' := a9.below b10
  have hk10 := hk9.later b10
  have xr10 := xr9.later b10
  have gw10 := Bp gw9 b10
  refine (Sd g P s1 s2 k1 k2 m1 f1 m2 f2 A1 A2 n1 c1 n2 c2 W10 hk10 a9' a10).mono ?_
  rintro r w11 ⟨pb, X1, u1, v1, X2, u2, v2, rfl, rfl, z1, z2, hk11, g11⟩
  have xr11 := xr10.grown g11 (show w.heap.size + 1 ≠ g by omega)
  have gw11 := Bi gw10 g11
  go_wp2_with (refine Bt rfl _ _ rfl rfl (w.heap.size + 1) _ X1 u1 v1 _ _ X2 u2 v2 _ xr11 rfl rfl (fun W1 y1 gW1 => ?_); obtain ⟨z3, z4, z5, z6, z7, z8, -⟩ := y1.cell6)
  refine bodyPost_ret (v := _) ?_ rfl (Ff z1 z2 xr11 (by rw [Gx]; exact hk11) gw11 (show g ≠ w.heap.size + 1 by omega) (by omega) gW1)
  simp [results, Tryz.results40, go_sem, z3, z4, z5, z6, z7, z8]
 ·have ho : Fn true (Ho q ys f) (Ho p xs e) = none := rfl
  rw [ho]
  go_enter Tryz.func40, Tryz.ntmps40
  go_wp2_with fail
  refine TK.out.mono ?_
  rintro r w7 ⟨rfl, hk7, g7⟩
  have xr7 := xr.grown g7 (show w.heap.size + 1 ≠ g by omega)
  have gw7 := Bi (Bv b3 (some g)) g7
  go_wp2_with (refine Bt rfl _ _ rfl rfl (w.heap.size + 1) false none 0 0 0 false none 0 0 0 xr7 rfl rfl (fun W1 y1 gW1 => ?_); have hk8 := hk7.other gW1 (show g ≠ w.heap.size + 1 by omega); obtain ⟨u0, u1, u2, u3, u4, u5, -⟩ := y1.cell6)
  refine bodyPost_ret (v := (.agg #[.bool false, .slice none 0 0, .int .i64 0, .bool false, .slice none 0 0, .int .i64 0])) ?_ rfl (Cl hk8 (Cd gw7 gW1 (by omega)))
  simp [results, Tryz.results40, go_sem, u0, u1, u2, u3, u4, u5]
end Go.Proofs.YteffemhapnbaeaaGreatDoor
