/- Walks and laws that the claim's row needs. No conditions. -/
import Derived.Test.YteffemhapnbaeaaGreatDoorQas
import Derived.Test.YteffemhapnbaeaaGreatDoorQaq
import Derived.Test.YteffemhapnbaeaaGreatDoorQar
set_option maxHeartbeats 16000000
set_option linter.unusedSimpArgs false
set_option linter.unusedVariables false
namespace Go.Proofs.YteffemhapnbaeaaGreatDoor
open Go.RowKit Num
variable {tw : TypeId}
set_option maxRecDepth 100000
theorem Lo {bad : Bool} {P : Int} {l : List SVal} (h : Bx bad P l = false) : 1 ≤ P ∧ P ≤ 8192 := by
 unfold Bx at h
 simp only [Bool.or_eq_false_iff, decide_eq_false_iff_not] at h
 omega
theorem Ber (p q s t : Bool) (A A' B B' : Option Addr) (n c n' c' m k m' k' : Nat) (xs ys us vs : List Int) (e f i j P : Int) (g : Nat) (bad : Bool) (w : World)
  (D E : Dy) (h : Arr w A n c xs) (h' : Arr w A' n' c' ys) (hB : Arr w B m k us) (hB' : Arr w B' m' k' vs) (hT : Tz w) (hk : Wk w g P bad tw)
  (ho : Bx bad P [(⟨p, A, n, c, xs, e, q, A', n', c', ys, f⟩ : SVal), (⟨s, B, m, k, us, i, t, B', m', k', vs, j⟩ : SVal)] = false → Le P false (⟨p, val xs, e⟩ : Dy) (⟨s, val us, i⟩ : Dy) = some D ∧ Le P true (⟨q, val ys, f⟩ : Dy) (⟨t, val vs, j⟩ : Dy) = some E) :
  Calls Tryz.prog 12 #[.pointer (some ⟨g, 0, none⟩), .agg #[.bool p, .slice A n c, .int .i64 e, .bool q, .slice A' n' c', .int .i64 f], .agg #[.bool s, .slice B m k, .int .i64 i, .bool t, .slice B' m' k', .int .i64 j]] w
   (Dx (if Bx bad P [(⟨p, A, n, c, xs, e, q, A', n', c', ys, f⟩ : SVal), (⟨s, B, m, k, us, i, t, B', m', k', vs, j⟩ : SVal)] = false then some (D, E) else none) g P tw w) := by
 have hg := hk.lt
 have b2 : Below w.heap.size w (w.alloc (.cells #[.bool p, .slice A n c, .int .i64 e, .bool q, .slice A' n' c', .int .i64 f] 28)) := Ba (Bb w) _
 have b3 : Below w.heap.size w ((w.alloc (.cells #[.bool p, .slice A n c, .int .i64 e, .bool q, .slice A' n' c', .int .i64 f] 28)).alloc (.cells #[.bool s, .slice B m k, .int .i64 i, .bool t, .slice B' m' k', .int .i64 j] 28)) := Ba b2 _
 have b4 : Below w.heap.size w (((w.alloc (.cells #[.bool p, .slice A n c, .int .i64 e, .bool q, .slice A' n' c', .int .i64 f] 28)).alloc (.cells #[.bool s, .slice B m k, .int .i64 i, .bool t, .slice B' m' k', .int .i64 j] 28)).alloc (.cells #[.bool false, .slice none 0 0, .int .i64 0, .bool false, .slice none 0 0, .int .i64 0] 28)) := Ba b3 _
 have b5 : Below w.heap.size w ((((w.alloc (.cells #[.bool p, .slice A n c, .int .i64 e, .bool q, .slice A' n' c', .int .i64 f] 28)).alloc (.cells #[.bool s, .slice B m k, .int .i64 i, .bool t, .slice B' m' k', .int .i64 j] 28)).alloc (.cells #[.bool false, .slice none 0 0, .int .i64 0, .bool false, .slice none 0 0, .int .i64 0] 28)).alloc (.cells #[.bool p, .slice A n c, .int .i64 e, .bool q, .slice A' n' c', .int .i64 f, .bool s, .slice B m k, .int .i64 i, .bool t, .slice B' m' k', .int .i64 j] 28)) := Ba b4 _
 have s2 : (w.alloc (.cells #[.bool p, .slice A n c, .int .i64 e, .bool q, .slice A' n' c', .int .i64 f] 28)).heap.size = w.heap.size + 1 := by simp
 have s3 : ((w.alloc (.cells #[.bool p, .slice A n c, .int .i64 e, .bool q, .slice A' n' c', .int .i64 f] 28)).alloc (.cells #[.bool s, .slice B m k, .int .i64 i, .bool t, .slice B' m' k', .int .i64 j] 28)).heap.size = w.heap.size + 1 + 1 := by simp
 have s4 : (((w.alloc (.cells #[.bool p, .slice A n c, .int .i64 e, .bool q, .slice A' n' c', .int .i64 f] 28)).alloc (.cells #[.bool s, .slice B m k, .int .i64 i, .bool t, .slice B' m' k', .int .i64 j] 28)).alloc (.cells #[.bool false, .slice none 0 0, .int .i64 0, .bool false, .slice none 0 0, .int .i64 0] 28)).heap.size = w.heap.size + 1 + 1 + 1 := by simp
 have xsa := (Bg w #[.bool p, .slice A n c, .int .i64 e, .bool q, .slice A' n' c', .int .i64 f] 28).later (Ba (Ba (Ba (Bb _) (.cells #[.bool s, .slice B m k, .int .i64 i, .bool t, .slice B' m' k', .int .i64 j] 28)) (.cells #[.bool false, .slice none 0 0, .int .i64 0, .bool false, .slice none 0 0, .int .i64 0] 28)) (.cells #[.bool p, .slice A n c, .int .i64 e, .bool q, .slice A' n' c', .int .i64 f, .bool s, .slice B m k, .int .i64 i, .bool t, .slice B' m' k', .int .i64 j] 28))
 have xsb := (Bg (w.alloc (.cells #[.bool p, .slice A n c, .int .i64 e, .bool q, .slice A' n' c', .int .i64 f] 28)) #[.bool s, .slice B m k, .int .i64 i, .bool t, .slice B' m' k', .int .i64 j] 28).later (Ba (Ba (Bb _) (.cells #[.bool false, .slice none 0 0, .int .i64 0, .bool false, .slice none 0 0, .int .i64 0] 28)) (.cells #[.bool p, .slice A n c, .int .i64 e, .bool q, .slice A' n' c', .int .i64 f, .bool s, .slice B m k, .int .i64 i, .bool t, .slice B' m' k', .int .i64 j] 28))
 have xr := (Bg ((w.alloc (.cells #[.bool p, .slice A n c, .int .i64 e, .bool q, .slice A' n' c', .int .i64 f] 28)).alloc (.cells #[.bool s, .slice B m k, .int .i64 i, .bool t, .slice B' m' k', .int .i64 j] 28)) #[.bool false, .slice none 0 0, .int .i64 0, .bool false, .slice none 0 0, .int .i64 0] 28).later (Ba (Bb _) (.cells #[.bool p, .slice A n c, .int .i64 e, .bool q, .slice A' n' c', .int .i64 f, .bool s, .slice B m k, .int .i64 i, .bool t, .slice B' m' k', .int .i64 j] 28))
 have xl := Bg (((w.alloc (.cells #[.bool p, .slice A n c, .int .i64 e, .bool q, .slice A' n' c', .int .i64 f] 28)).alloc (.cells #[.bool s, .slice B m k, .int .i64 i, .bool t, .slice B' m' k', .int .i64 j] 28)).alloc (.cells #[.bool false, .slice none 0 0, .int .i64 0, .bool false, .slice none 0 0, .int .i64 0] 28)) #[.bool p, .slice A n c, .int .i64 e, .bool q, .slice A' n' c', .int .i64 f, .bool s, .slice B m k, .int .i64 i, .bool t, .slice B' m' k', .int .i64 j] 28
 rw [s2] at xsb
 rw [s3] at xr
 rw [s4] at xl
 have hk5 := hk.later b5
 have TK := Mk g (w.heap.size + 1 + 1 + 1) 2 P bad [(⟨p, A, n, c, xs, e, q, A', n', c', ys, f⟩ : SVal), (⟨s, B, m, k, us, i, t, B', m', k', vs, j⟩ : SVal)] rfl _ hk5 (Jb (⟨p, A, n, c, xs, e, q, A', n', c', ys, f⟩ : SVal) (⟨s, B, m, k, us, i, t, B', m', k', vs, j⟩ : SVal) xl ⟨h.below b5, h'.below b5⟩ ⟨hB.below b5, hB'.below b5⟩) (by omega) (by decide)
 obtain ⟨k0, k1, k2, k3, k4, k5, -⟩ := (Bg w #[.bool p, .slice A n c, .int .i64 e, .bool q, .slice A' n' c', .int .i64 f] 28).later (Ba (Ba (Bb _) (.cells #[.bool s, .slice B m k, .int .i64 i, .bool t, .slice B' m' k', .int .i64 j] 28)) (.cells #[.bool false, .slice none 0 0, .int .i64 0, .bool false, .slice none 0 0, .int .i64 0] 28)) |>.cell6
 obtain ⟨j0, j1, j2, j3, j4, j5, -⟩ := (Bg (w.alloc (.cells #[.bool p, .slice A n c, .int .i64 e, .bool q, .slice A' n' c', .int .i64 f] 28)) #[.bool s, .slice B m k, .int .i64 i, .bool t, .slice B' m' k', .int .i64 j] 28).later (Ba (Bb _) (.cells #[.bool false, .slice none 0 0, .int .i64 0, .bool false, .slice none 0 0, .int .i64 0] 28)) |>.cell6
 rw [s2] at j0 j1 j2 j3 j4 j5
 have TP : Bx bad P [(⟨p, A, n, c, xs, e, q, A', n', c', ys, f⟩ : SVal), (⟨s, B, m, k, us, i, t, B', m', k', vs, j⟩ : SVal)] = false → _ := Hu
 have TQ : Bx bad P [(⟨p, A, n, c, xs, e, q, A', n', c', ys, f⟩ : SVal), (⟨s, B, m, k, us, i, t, B', m', k', vs, j⟩ : SVal)] = false → 1 ≤ P ∧ P ≤ 8192 := Lo
 generalize Bx bad P [(⟨p, A, n, c, xs, e, q, A', n', c', ys, f⟩ : SVal), (⟨s, B, m, k, us, i, t, B', m', k', vs, j⟩ : SVal)] = tb at *
 have TK := Be TK
 have TP := Be TP
 have TQ := Be TQ
 have HO := Be ho
 clear s2 s3 s4 b2 b3 b4 xl ho
 cases tb
 ·rw [if_pos rfl]
  obtain ⟨p1, p2, p3, p4⟩ := TP.out rfl
  obtain ⟨P1, P2⟩ := TQ.out rfl
  obtain ⟨o1, o2⟩ := HO.out rfl
  have v1 := (Bm h.wf p1).2.2.1
  have v2 := (Bm h'.wf p2).2.2.1
  have v3 := (Bm hB.wf p3).2.2.1
  have v4 := (Bm hB'.wf p4).2.2.1
  have l1 := PlD.of h.wf p1
  have l2 := PlD.of h'.wf p2
  have l3 := PlD.of hB.wf p3
  have l4 := PlD.of hB'.wf p4
  have C1 := fun w' (g1 : Arr w' A n c xs) (g2 : Arr w' B m k us) (hT2 : Tz w') (hk2 : Wk w' g P false tw) => Bgg p s A B n c m k (val xs) (val us) e i P false g false D w' (by rw [v1]; exact g1) (by rw [v3]; exact g2) hT2 hk2 l1 l3 P1 P2 o1
  have C2 := fun w' (g1 : Arr w' A' n' c' ys) (g2 : Arr w' B' m' k' vs) (hT2 : Tz w') (hk2 : Wk w' g P false tw) => Bgg q t A' B' n' c' m' k' (val ys) (val vs) f j P true g false E w' (by rw [v2]; exact g1) (by rw [v4]; exact g2) hT2 hk2 l2 l4 P1 P2 o2
  have C1 := Be C1
  have C2 := Be C2
  clear p1 p2 p3 p4 v1 v2 v3 v4 TP TQ HO o1 o2 l1 l2 l3 l4
  obtain ⟨ds, dm, de⟩ := D
  obtain ⟨es, em, ee⟩ := E
  go_enter Tryz.func12, Tryz.ntmps12
  go_wp2_with fail
  refine TK.out.mono ?_
  rintro r w6 ⟨rfl, hk6, g6⟩
  have xsa6 := xsa.grown g6 (show w.heap.size ≠ g by omega)
  have xsb6 := xsb.grown g6 (show w.heap.size + 1 ≠ g by omega)
  have xr6 := xr.grown g6 (show w.heap.size + 1 + 1 ≠ g by omega)
  have gw := Bi (Bv b5 (some g)) g6
  have hA := hk.arr h gw
  have hA' := hk.arr h' gw
  have hC := hk.arr hB gw
  have hC' := hk.arr hB' gw
  have hT6 := hk.tz hT gw
  have KC : ∀ w', Below w6.heap.size w6 w' → ((w'.cell? ⟨w.heap.size, 0, none⟩ = some (.bool p) ∧ w'.cell? ⟨w.heap.size, 1, none⟩ = some (.slice A n c) ∧ w'.cell? ⟨w.heap.size, 2, none⟩ = some (.int .i64 e) ∧ w'.cell? ⟨w.heap.size, 3, none⟩ = some (.bool q) ∧ w'.cell? ⟨w.heap.size, 4, none⟩ = some (.slice A' n' c') ∧ w'.cell? ⟨w.heap.size, 5, none⟩ = some (.int .i64 f)) ∧ w'.cell? ⟨w.heap.size + 1, 0, none⟩ = some (.bool s) ∧ w'.cell? ⟨w.heap.size + 1, 1, none⟩ = some (.slice B m k) ∧ w'.cell? ⟨w.heap.size + 1, 2, none⟩ = some (.int .i64 i) ∧ w'.cell? ⟨w.heap.size + 1, 3, none⟩ = some (.bool t) ∧ w'.cell? ⟨w.heap.size + 1, 4, none⟩ = some (.slice B' m' k') ∧ w'.cell? ⟨w.heap.size + 1, 5, none⟩ = some (.int .i64 j)) := by
   intro w' hb
   obtain ⟨z0, z1, z2, z3, z4, z5, -⟩ := (xsa6.later hb).cell6
   obtain ⟨y0, y1, y2, y3, y4, y5, -⟩ := (xsb6.later hb).cell6
   exact ⟨⟨z0, z1, z2, z3, z4, z5⟩, ⟨y0, y1, y2, y3, y4, y5⟩⟩
  have KC := Be KC
  clear k0 k1 k2 k3 k4 k5 j0 j1 j2 j3 j4 j5
  go_wp2_with fail
  refine wp_region_noPanic ?_
  refine wp_region_held_drew (S := fun w' => ((w'.cell? ⟨w.heap.size, 0, none⟩ = some (.bool p) ∧ w'.cell? ⟨w.heap.size, 1, none⟩ = some (.slice A n c) ∧ w'.cell? ⟨w.heap.size, 2, none⟩ = some (.int .i64 e) ∧ w'.cell? ⟨w.heap.size, 3, none⟩ = some (.bool q) ∧ w'.cell? ⟨w.heap.size, 4, none⟩ = some (.slice A' n' c') ∧ w'.cell? ⟨w.heap.size, 5, none⟩ = some (.int .i64 f)) ∧ w'.cell? ⟨w.heap.size + 1, 0, none⟩ = some (.bool s) ∧ w'.cell? ⟨w.heap.size + 1, 1, none⟩ = some (.slice B m k) ∧ w'.cell? ⟨w.heap.size + 1, 2, none⟩ = some (.int .i64 i) ∧ w'.cell? ⟨w.heap.size + 1, 3, none⟩ = some (.bool t) ∧ w'.cell? ⟨w.heap.size + 1, 4, none⟩ = some (.slice B' m' k') ∧ w'.cell? ⟨w.heap.size + 1, 5, none⟩ = some (.int .i64 j))) (by kernel_rfl) (KC.out _ (Below.drew (Bb _))) (fun hHeld => ?_)
  have hB7 : Below w6.heap.size w6 w6.drew := Below.drew (Bb _)
  (refine Bj 0 14 rfl ?_; (try simp only [Act.put, Bf]))
  (refine Bj 1 15 rfl ?_; (try simp only [Act.put, Bf]))
  (refine Bj 2 16 rfl ?_; (try simp only [Act.put, Bf]))
  (refine Bj 3 17 rfl ?_; (try simp only [Act.put, Bf]))
  (refine Bj 4 18 rfl ?_; (try simp only [Act.put, Bf]))
  (refine Bj 5 19 rfl ?_; (try simp only [Act.put, Bf]))
  (refine Bj 7 21 rfl ?_; (try simp only [Act.put, Bf]))
  (refine Bj 8 22 rfl ?_; (try simp only [Act.put, Bf]))
  (refine Bj 9 23 rfl ?_; (try simp only [Act.put, Bf]))
  (refine Bj 10 24 rfl ?_; (try simp only [Act.put, Bf]))
  (refine Bj 11 25 rfl ?_; (try simp only [Act.put, Bf]))
  refine Bw 6 rfl (fun K hK => ?_)
  go_simp
  go_at_call 35
  refine (C1.out _ (hA.below hB7) (hC.below hB7) (hT6.below hB7) (hk6.later hB7)).mono ?_
  rintro r w7 ⟨A1, n1, c1, rfl, a1, hb7⟩
  have hB8 := Bc hB7 hb7
  (refine hK.out _ _ (KC.out _ hB8) (fun _ => ?_); clear hHeld hK K; rename_i hHeld; (try simp only [Act.put, Bf]))
  refine Bw 12 rfl (fun K hK => ?_)
  go_simp
  go_at_call 35
  refine (C2.out _ (hA'.below hB8) (hC'.below hB8) (hT6.below hB8) (hk6.later hB8)).mono ?_
  rintro r w8 ⟨A2, n2, c2, rfl, a2, hb8⟩
  have hB9 := Bc hB8 hb8
  have a1 := a1.below hb8
  (refine hK.out _ _ (KC.out _ hB9) (fun _ => ?_); clear hHeld hK K; rename_i hHeld; (try simp only [Act.put, Bf]))
  refine Bw 13 rfl (fun K hK => ?_)
  go_simp
  go_at_call 34
  refine (Rs g P _ _ A1 A2 n1 c1 n2 c2 _ _ _ (hk6.later hB9)).mono ?_
  rintro r w9 ⟨rfl, hb9⟩
  have hBX := Bc hB9 hb9
  have a1 := a1.below hb9
  have a2 := a2.below hb9
  (refine hK.out _ _ (KC.out _ hBX) (fun _ => ?_); clear hHeld hK K; rename_i hHeld; (try simp only [Act.put, Bf]))
  refine Bw 14 rfl (fun K hK => ?_)
  have xr9 := xr6.later hBX
  refine Bz rfl _ _ rfl rfl (w.heap.size + 1 + 1) ds A1 n1 c1 de es A2 n2 c2 ee xr9 rfl rfl (fun W1 y1 gW1 => ?_)
  have ya := ((xsa6.later hBX).grown gW1 (show w.heap.size ≠ w.heap.size + 1 + 1 by omega)).cell6
  have yb := ((xsb6.later hBX).grown gW1 (show w.heap.size + 1 ≠ w.heap.size + 1 + 1 by omega)).cell6
  obtain ⟨z0, z1, z2, z3, z4, z5, -⟩ := ya
  obtain ⟨i0, i1, i2, i3, i4, i5, -⟩ := yb
  have hcs : ((W1.cell? ⟨w.heap.size, 0, none⟩ = some (.bool p) ∧ W1.cell? ⟨w.heap.size, 1, none⟩ = some (.slice A n c) ∧ W1.cell? ⟨w.heap.size, 2, none⟩ = some (.int .i64 e) ∧ W1.cell? ⟨w.heap.size, 3, none⟩ = some (.bool q) ∧ W1.cell? ⟨w.heap.size, 4, none⟩ = some (.slice A' n' c') ∧ W1.cell? ⟨w.heap.size, 5, none⟩ = some (.int .i64 f)) ∧ W1.cell? ⟨w.heap.size + 1, 0, none⟩ = some (.bool s) ∧ W1.cell? ⟨w.heap.size + 1, 1, none⟩ = some (.slice B m k) ∧ W1.cell? ⟨w.heap.size + 1, 2, none⟩ = some (.int .i64 i) ∧ W1.cell? ⟨w.heap.size + 1, 3, none⟩ = some (.bool t) ∧ W1.cell? ⟨w.heap.size + 1, 4, none⟩ = some (.slice B' m' k') ∧ W1.cell? ⟨w.heap.size + 1, 5, none⟩ = some (.int .i64 j)) := ⟨⟨z0, z1, z2, z3, z4, z5⟩, ⟨i0, i1, i2, i3, i4, i5⟩⟩
  (refine hK.out _ _ (hcs) (fun _ => ?_); clear hHeld hK K; rename_i hHeld; (try simp only [Act.put, Bf]))
  refine Cn ?_
  obtain ⟨u0, u1, u2, u3, u4, u5, -⟩ := y1.cell6
  go_wp2_with fail
  refine bodyPost_ret (v := _) ?_ rfl (Ff (o := some (⟨ds, dm, de⟩, ⟨es, em, ee⟩)) a1 a2 xr9 (hk6.later hBX) (Bp gw hBX) (show g ≠ w.heap.size + 1 + 1 by omega) (by omega) gW1)
  simp [results, Tryz.results12, go_sem, u0, u1, u2, u3, u4, u5]
 ·rw [if_neg (by decide)]
  go_enter Tryz.func12, Tryz.ntmps12
  go_wp2_with fail
  refine TK.out.mono ?_
  rintro r w6 ⟨rfl, hk6, g6⟩
  have xr6 := xr.grown g6 (show w.heap.size + 1 + 1 ≠ g by omega)
  have gw := Bi (Bv b5 (some g)) g6
  go_wp2_with (refine Bt rfl _ _ rfl rfl (w.heap.size + 1 + 1) false none 0 0 0 false none 0 0 0 xr6 rfl rfl (fun W1 y1 gW1 => ?_); have hk9 := hk6.other gW1 (show g ≠ w.heap.size + 1 + 1 by omega); obtain ⟨u0, u1, u2, u3, u4, u5, -⟩ := y1.cell6)
  refine bodyPost_ret (v := .agg #[.bool false, .slice none 0 0, .int .i64 0, .bool false, .slice none 0 0, .int .i64 0]) ?_ rfl (Cl hk9 (Cd gw gW1 (by omega)))
  simp [results, Tryz.results12, go_sem, u0, u1, u2, u3, u4, u5]
def Cm (d : Dy) : Dy := ⟨!d.neg && decide (0 < (wd d.m).length), d.m, d.e⟩
theorem Rw {p : Bool} {xs : List Int} {e : Int} (hw : Wf xs) (hp : Bq p xs e = true) : Ga p xs e = some (Cm ⟨p, val xs, e⟩) := by
 unfold Ga
 rw [if_pos hp]
 show some (⟨!p && decide (0 < xs.length), val xs, e⟩ : Dy) = some ⟨!p && decide (0 < (wd (val xs)).length), val xs, e⟩
 rw [(Bm hw hp).2.2.1]
theorem PlD.neg {D : Dy} (h : PlD D) : PlD (Cm D) := by
 obtain ⟨p, m, e⟩ := D
 obtain ⟨h1, h2⟩ := h
 refine ⟨?_, h2⟩
 have h1 : Bq p (wd m) e = true := h1
 show Bq (!p && decide (0 < (wd m).length)) (wd m) e = true
 unfold Bq at h1 ⊢
 by_cases h0 : (wd m).length = 0
 ·rw [if_pos h0] at h1 ⊢
  rw [h0]
  simp only [Bool.and_eq_true, decide_eq_true_eq] at h1
  simp [h1.1]
 ·rw [if_neg h0] at h1 ⊢
  exact h1
theorem Vi (S L : Int) : Cm (Ca S L) = Ca (-S) L := by
 unfold Ca
 by_cases h : S = 0
 ·subst h
  rw [if_pos rfl, if_pos (by decide)]
  unfold Cm
  rw [Ge]
  rfl
 ·rw [if_neg h, if_neg (by omega)]
  have hp := oddI_pos (v := (S.natAbs : Int)) (by omega)
  have hl := List.length_pos_iff.2 (wd_ne_nil hp)
  unfold Cm
  simp only
  rw [decide_eq_true hl, Bool.and_true, Int.natAbs_neg]
  by_cases hs : S < 0
  ·rw [decide_eq_true hs, decide_eq_false (by omega)]; rfl
  ·rw [decide_eq_false hs, decide_eq_true (by omega)]; rfl
theorem Xq {a b : Dy} (ha : PlD a) (hb : PlD b) (h : cDy a b ≤ 0) : Cb a.neg b.neg (wd a.m) (wd b.m) a.e b.e = true := by
 unfold Cb Gj
 rw [ha.1, hb.1]
 simp only [Bool.and_self, Bool.true_and, decide_eq_true_eq]
 exact h
theorem Bc3 {a b : Dy} (ha : PlD a) (hb : PlD b) (h : cDy a b ≤ 0) : Cb (Cm b).neg (Cm a).neg (wd (Cm b).m) (wd (Cm a).m) (Cm b).e (Cm a).e = true := by
 refine Xq hb.neg ha.neg ?_
 obtain ⟨L, la, lb, -, -⟩ := Ws a.e b.e 0 0
 have ea := ha.can la
 have eb := hb.can lb
 generalize Fh a L = x at *
 generalize Fh b L = y at *
 subst ea eb
 have na := ha.neg
 have nb := hb.neg
 rw [Hw ha hb] at h
 rw [Vi] at na nb
 rw [Vi, Vi, Hw nb na, Wi, Bbc x y]
 omega
theorem Yd {bad : Bool} {P : Int} {p q s t : Bool} {A A' B B' C C' : Option Addr} {n c n' c' m k m' k' n6 c6 n7 c7 : Nat} {xs ys us vs : List Int} {e f i j : Int} (hu : Wf us) (hv : Wf vs) (h : Bx bad P [(⟨s, B, m, k, us, i, t, B', m', k', vs, j⟩ : SVal)] = false) :
  Bx bad P [(⟨p, A, n, c, xs, e, q, A', n', c', ys, f⟩ : SVal), (⟨s, B, m, k, us, i, t, B', m', k', vs, j⟩ : SVal)] = Bx false P [(⟨p, A, n, c, xs, e, q, A', n', c', ys, f⟩ : SVal), ⟨(Cm (⟨t, val vs, j⟩ : Dy)).neg, C, n6, c6, wd (Cm (⟨t, val vs, j⟩ : Dy)).m, (Cm (⟨t, val vs, j⟩ : Dy)).e, (Cm (⟨s, val us, i⟩ : Dy)).neg, C', n7, c7, wd (Cm (⟨s, val us, i⟩ : Dy)).m, (Cm (⟨s, val us, i⟩ : Dy)).e⟩] := by
 have hb : bad = false ∧ Cb s t us vs i j = true := by
  unfold Bx at h
  simp only [List.all_cons, List.all_nil, Bool.and_true, SVal.right, Bool.or_eq_false_iff, Bool.not_eq_false'] at h
  exact ⟨h.1.1.1, h.2⟩
 obtain ⟨rfl, hr⟩ := hb
 obtain ⟨l1, l2, l3⟩ := Bc2 hu hv hr
 have hn := Bc3 l1 l2 l3
 rw [Qj, Qj, hr, hn]
theorem spsub (p q s t : Bool) (A A' B B' : Option Addr) (n c n' c' m k m' k' : Nat) (xs ys us vs : List Int) (e f i j P : Int) (g : Nat) (bad : Bool) (w : World)
  (D E : Dy) (h : Arr w A n c xs) (h' : Arr w A' n' c' ys) (hB : Arr w B m k us) (hB' : Arr w B' m' k' vs) (hT : Tz w) (hk : Wk w g P bad tw)
  (ho : Bx bad P [(⟨p, A, n, c, xs, e, q, A', n', c', ys, f⟩ : SVal), (⟨s, B, m, k, us, i, t, B', m', k', vs, j⟩ : SVal)] = false → Le P false (⟨p, val xs, e⟩ : Dy) (Cm (⟨t, val vs, j⟩ : Dy)) = some D ∧ Le P true (⟨q, val ys, f⟩ : Dy) (Cm (⟨s, val us, i⟩ : Dy)) = some E) :
  Calls Tryz.prog 14 #[.pointer (some ⟨g, 0, none⟩), .agg #[.bool p, .slice A n c, .int .i64 e, .bool q, .slice A' n' c', .int .i64 f], .agg #[.bool s, .slice B m k, .int .i64 i, .bool t, .slice B' m' k', .int .i64 j]] w
   (Dx (if Bx bad P [(⟨p, A, n, c, xs, e, q, A', n', c', ys, f⟩ : SVal), (⟨s, B, m, k, us, i, t, B', m', k', vs, j⟩ : SVal)] = false then some (D, E) else none) g P tw w) := by
 have hg := hk.lt
 have b2 : Below w.heap.size w (w.alloc (.cells #[.bool p, .slice A n c, .int .i64 e, .bool q, .slice A' n' c', .int .i64 f] 28)) := Ba (Bb w) _
 have b3 : Below w.heap.size w ((w.alloc (.cells #[.bool p, .slice A n c, .int .i64 e, .bool q, .slice A' n' c', .int .i64 f] 28)).alloc (.cells #[.bool s, .slice B m k, .int .i64 i, .bool t, .slice B' m' k', .int .i64 j] 28)) := Ba b2 _
 have b4 : Below w.heap.size w (((w.alloc (.cells #[.bool p, .slice A n c, .int .i64 e, .bool q, .slice A' n' c', .int .i64 f] 28)).alloc (.cells #[.bool s, .slice B m k, .int .i64 i, .bool t, .slice B' m' k', .int .i64 j] 28)).alloc (.cells #[.bool false, .slice none 0 0, .int .i64 0, .bool false, .slice none 0 0, .int .i64 0] 28)) := Ba b3 _
 have s2 : (w.alloc (.cells #[.bool p, .slice A n c, .int .i64 e, .bool q, .slice A' n' c', .int .i64 f] 28)).heap.size = w.heap.size + 1 := by simp
 have s3 : ((w.alloc (.cells #[.bool p, .slice A n c, .int .i64 e, .bool q, .slice A' n' c', .int .i64 f] 28)).alloc (.cells #[.bool s, .slice B m k, .int .i64 i, .bool t, .slice B' m' k', .int .i64 j] 28)).heap.size = w.heap.size + 1 + 1 := by simp
 have xsa := (Bg w #[.bool p, .slice A n c, .int .i64 e, .bool q, .slice A' n' c', .int .i64 f] 28).later (Ba (Ba (Bb _) (.cells #[.bool s, .slice B m k, .int .i64 i, .bool t, .slice B' m' k', .int .i64 j] 28)) (.cells #[.bool false, .slice none 0 0, .int .i64 0, .bool false, .slice none 0 0, .int .i64 0] 28))
 have xsb := (Bg (w.alloc (.cells #[.bool p, .slice A n c, .int .i64 e, .bool q, .slice A' n' c', .int .i64 f] 28)) #[.bool s, .slice B m k, .int .i64 i, .bool t, .slice B' m' k', .int .i64 j] 28).later (Ba (Bb _) (.cells #[.bool false, .slice none 0 0, .int .i64 0, .bool false, .slice none 0 0, .int .i64 0] 28))
 have xr := Bg ((w.alloc (.cells #[.bool p, .slice A n c, .int .i64 e, .bool q, .slice A' n' c', .int .i64 f] 28)).alloc (.cells #[.bool s, .slice B m k, .int .i64 i, .bool t, .slice B' m' k', .int .i64 j] 28)) #[.bool false, .slice none 0 0, .int .i64 0, .bool false, .slice none 0 0, .int .i64 0] 28
 rw [s2] at xsb
 rw [s3] at xr
 have hk4 := hk.later b4
 have gw := Bv b4 (some g)
 have hA := h.below b4
 have hA' := h'.below b4
 have hC := hB.below b4
 have hC' := hB'.below b4
 have hT4 := hT.below b4
 clear s2 s3 b2 b3
 generalize hW : (((w.alloc (.cells #[.bool p, .slice A n c, .int .i64 e, .bool q, .slice A' n' c', .int .i64 f] 28)).alloc (.cells #[.bool s, .slice B m k, .int .i64 i, .bool t, .slice B' m' k', .int .i64 j] 28)).alloc (.cells #[.bool false, .slice none 0 0, .int .i64 0, .bool false, .slice none 0 0, .int .i64 0] 28)) = W at *
 have KC : ∀ w', W.grownBy w' (some g) → ((w'.cell? ⟨w.heap.size, 0, none⟩ = some (.bool p) ∧ w'.cell? ⟨w.heap.size, 1, none⟩ = some (.slice A n c) ∧ w'.cell? ⟨w.heap.size, 2, none⟩ = some (.int .i64 e) ∧ w'.cell? ⟨w.heap.size, 3, none⟩ = some (.bool q) ∧ w'.cell? ⟨w.heap.size, 4, none⟩ = some (.slice A' n' c') ∧ w'.cell? ⟨w.heap.size, 5, none⟩ = some (.int .i64 f)) ∧ w'.cell? ⟨w.heap.size + 1, 0, none⟩ = some (.bool s) ∧ w'.cell? ⟨w.heap.size + 1, 1, none⟩ = some (.slice B m k) ∧ w'.cell? ⟨w.heap.size + 1, 2, none⟩ = some (.int .i64 i) ∧ w'.cell? ⟨w.heap.size + 1, 3, none⟩ = some (.bool t) ∧ w'.cell? ⟨w.heap.size + 1, 4, none⟩ = some (.slice B' m' k') ∧ w'.cell? ⟨w.heap.size + 1, 5, none⟩ = some (.int .i64 j)) := by
  intro w' hb
  obtain ⟨z0, z1, z2, z3, z4, z5, -⟩ := (xsa.grown hb (show w.heap.size ≠ g by omega)).cell6
  obtain ⟨y0, y1, y2, y3, y4, y5, -⟩ := (xsb.grown hb (show w.heap.size + 1 ≠ g by omega)).cell6
  exact ⟨⟨z0, z1, z2, z3, z4, z5⟩, ⟨y0, y1, y2, y3, y4, y5⟩⟩
 have KC := Be KC
 have NG := Be (Bgf s t B B' m k m' k' us vs i j P g bad W.drew (hC.below (Below.drew (Bb _))) (hC'.below (Below.drew (Bb _))) (hT4.below (Below.drew (Bb _))) (hk4.later (Below.drew (Bb _))))
 have gd : W.grownBy W.drew (some g) := Ce (Do _ _)
 have key : ∀ (o : Option (Dy × Dy)), Fn (Bx bad P [(⟨s, B, m, k, us, i, t, B', m', k', vs, j⟩ : SVal)]) (Ga t vs j) (Ga s us i) = o → (∀ w' C n6 c6 C' n7 c7, Wk w' g P o.isNone tw → W.grownBy w' (some g) → Arr w' C n6 c6 (wd (o.getD (Dy.zero, Dy.zero)).1.m) → Arr w' C' n7 c7 (wd (o.getD (Dy.zero, Dy.zero)).2.m) →
   Calls Tryz.prog 12 #[.pointer (some ⟨g, 0, none⟩), .agg #[.bool p, .slice A n c, .int .i64 e, .bool q, .slice A' n' c', .int .i64 f], .agg #[.bool (o.getD (Dy.zero, Dy.zero)).1.neg, .slice C n6 c6, .int .i64 (o.getD (Dy.zero, Dy.zero)).1.e, .bool (o.getD (Dy.zero, Dy.zero)).2.neg, .slice C' n7 c7, .int .i64 (o.getD (Dy.zero, Dy.zero)).2.e]] w' (Dx (if Bx bad P [(⟨p, A, n, c, xs, e, q, A', n', c', ys, f⟩ : SVal), (⟨s, B, m, k, us, i, t, B', m', k', vs, j⟩ : SVal)] = false then some (D, E) else none) g P tw w')) := by
  intro o ho2 w' C n6 c6 C' n7 c7 hk' hG g1 g2
  have a1 := hk4.arr hA hG
  have a2 := hk4.arr hA' hG
  have tz := hk4.tz hT4 hG
  cases ht : Bx bad P [(⟨s, B, m, k, us, i, t, B', m', k', vs, j⟩ : SVal)]
  ·rw [ht] at ho2
   have hr := ht
   rw [Jr] at hr
   simp only [Bool.or_eq_false_iff, Bool.not_eq_false'] at hr
   obtain ⟨pl1, pl2⟩ := Hj hr.2
   rw [Rw hB'.wf pl2, Rw hB.wf pl1] at ho2
   obtain rfl : o = some ((Cm (⟨t, val vs, j⟩ : Dy)), (Cm (⟨s, val us, i⟩ : Dy))) := ho2.symm
   have hh := Yd (bad := bad) (P := P) (p := p) (q := q) (A := A) (A' := A') (n := n) (c := c) (n' := n') (c' := c') (xs := xs) (ys := ys) (e := e) (f := f) (C := C) (C' := C') (n6 := n6) (c6 := c6) (n7 := n7) (c7 := c7) hB.wf hB'.wf ht
   rw [hh]
   refine Ber p q _ _ A A' C C' n c n' c' n6 c6 n7 c7 xs ys _ _ e f _ _ P g false w' D E a1 a2 g1 g2 tz hk' ?_
   intro h0
   obtain ⟨q1, q2⟩ := ho (hh.trans h0)
   have w1 : val (wd (Cm (⟨t, val vs, j⟩ : Dy)).m) = (Cm (⟨t, val vs, j⟩ : Dy)).m := val_wd _ (val_nonneg hB'.wf)
   have w2 : val (wd (Cm (⟨s, val us, i⟩ : Dy)).m) = (Cm (⟨s, val us, i⟩ : Dy)).m := val_wd _ (val_nonneg hB.wf)
   simp only [Option.getD_some]
   rw [w1, w2]
   exact ⟨q1, q2⟩
  ·rw [ht] at ho2
   obtain rfl : o = none := ho2.symm
   have hf : Bx bad P [(⟨p, A, n, c, xs, e, q, A', n', c', ys, f⟩ : SVal), (⟨s, B, m, k, us, i, t, B', m', k', vs, j⟩ : SVal)] = true := by
    unfold Bx at ht ⊢
    simp only [List.all_cons, List.all_nil, Bool.and_true] at ht ⊢
    revert ht
    cases SVal.right (⟨p, A, n, c, xs, e, q, A', n', c', ys, f⟩ : SVal) <;> cases SVal.right (⟨s, B, m, k, us, i, t, B', m', k', vs, j⟩ : SVal) <;> simp
   rw [hf, if_neg (by decide)]
   have H := Ber p q false false A A' C C' n c n' c' n6 c6 n7 c7 xs ys (wd Dy.zero.m) (wd Dy.zero.m) e f 0 0 P g true w' D E a1 a2 g1 g2 tz hk' (fun h0 => by rw [Lq] at h0; cases h0)
   rw [Lq, if_neg (by decide)] at H
   exact H
 generalize Fn (Bx bad P [(⟨s, B, m, k, us, i, t, B', m', k', vs, j⟩ : SVal)]) (Ga t vs j) (Ga s us i) = o at NG key
 have AD := Be (key o rfl)
 have RT : ∀ (o2 : Option (Dy × Dy)) w' X n1 c1 Y n2 c2, Arr w' X n1 c1 (wd (o2.getD (Dy.zero, Dy.zero)).1.m) → Arr w' Y n2 c2 (wd (o2.getD (Dy.zero, Dy.zero)).2.m) → Wk w' g P o2.isNone tw → W.grownBy w' (some g) → ∀ W1, w'.grownBy W1 (some (w.heap.size + 1 + 1)) → Dx o2 g P tw w (.returned (.agg #[.bool (o2.getD (Dy.zero, Dy.zero)).1.neg, .slice X n1 c1, .int .i64 (o2.getD (Dy.zero, Dy.zero)).1.e, .bool (o2.getD (Dy.zero, Dy.zero)).2.neg, .slice Y n2 c2, .int .i64 (o2.getD (Dy.zero, Dy.zero)).2.e])) W1 := by
  intro o2 w' X n1 c1 Y n2 c2 g1 g2 hk' hG W1 gW1
  exact Ff g1 g2 (xr.grown hG (show w.heap.size + 1 + 1 ≠ g by omega)) hk' (Bi gw hG) (show g ≠ w.heap.size + 1 + 1 by omega) (by omega) gW1
 have RT := Be RT
 have XR := Be (fun w' (hG : W.grownBy w' (some g)) => xr.grown hG (show w.heap.size + 1 + 1 ≠ g by omega))
 have KX : ∀ w' W1, W.grownBy w' (some g) → w'.grownBy W1 (some (w.heap.size + 1 + 1)) → ((W1.cell? ⟨w.heap.size, 0, none⟩ = some (.bool p) ∧ W1.cell? ⟨w.heap.size, 1, none⟩ = some (.slice A n c) ∧ W1.cell? ⟨w.heap.size, 2, none⟩ = some (.int .i64 e) ∧ W1.cell? ⟨w.heap.size, 3, none⟩ = some (.bool q) ∧ W1.cell? ⟨w.heap.size, 4, none⟩ = some (.slice A' n' c') ∧ W1.cell? ⟨w.heap.size, 5, none⟩ = some (.int .i64 f)) ∧ W1.cell? ⟨w.heap.size + 1, 0, none⟩ = some (.bool s) ∧ W1.cell? ⟨w.heap.size + 1, 1, none⟩ = some (.slice B m k) ∧ W1.cell? ⟨w.heap.size + 1, 2, none⟩ = some (.int .i64 i) ∧ W1.cell? ⟨w.heap.size + 1, 3, none⟩ = some (.bool t) ∧ W1.cell? ⟨w.heap.size + 1, 4, none⟩ = some (.slice B' m' k') ∧ W1.cell? ⟨w.heap.size + 1, 5, none⟩ = some (.int .i64 j)) := by
  intro w' W1 hb gW1
  obtain ⟨z0, z1, z2, z3, z4, z5, -⟩ := ((xsa.grown hb (show w.heap.size ≠ g by omega)).grown gW1 (by omega)).cell6
  obtain ⟨y0, y1, y2, y3, y4, y5, -⟩ := ((xsb.grown hb (show w.heap.size + 1 ≠ g by omega)).grown gW1 (by omega)).cell6
  exact ⟨⟨z0, z1, z2, z3, z4, z5⟩, ⟨y0, y1, y2, y3, y4, y5⟩⟩
 have KX := Be KX
 have HW := Be hW
 generalize (if Bx bad P [(⟨p, A, n, c, xs, e, q, A', n', c', ys, f⟩ : SVal), (⟨s, B, m, k, us, i, t, B', m', k', vs, j⟩ : SVal)] = false then some (D, E) else none) = o2 at *
 clear hW key ho h h' hB hB' hT hk b4 xsa xsb xr hk4 gw hA hA' hC hC' hT4
 go_enter Tryz.func14, Tryz.ntmps14
 go_wp2_with fail
 rw [HW.out]
 refine wp_region_noPanic ?_
 refine wp_region_held_drew (S := fun w' => ((w'.cell? ⟨w.heap.size, 0, none⟩ = some (.bool p) ∧ w'.cell? ⟨w.heap.size, 1, none⟩ = some (.slice A n c) ∧ w'.cell? ⟨w.heap.size, 2, none⟩ = some (.int .i64 e) ∧ w'.cell? ⟨w.heap.size, 3, none⟩ = some (.bool q) ∧ w'.cell? ⟨w.heap.size, 4, none⟩ = some (.slice A' n' c') ∧ w'.cell? ⟨w.heap.size, 5, none⟩ = some (.int .i64 f)) ∧ w'.cell? ⟨w.heap.size + 1, 0, none⟩ = some (.bool s) ∧ w'.cell? ⟨w.heap.size + 1, 1, none⟩ = some (.slice B m k) ∧ w'.cell? ⟨w.heap.size + 1, 2, none⟩ = some (.int .i64 i) ∧ w'.cell? ⟨w.heap.size + 1, 3, none⟩ = some (.bool t) ∧ w'.cell? ⟨w.heap.size + 1, 4, none⟩ = some (.slice B' m' k') ∧ w'.cell? ⟨w.heap.size + 1, 5, none⟩ = some (.int .i64 j))) (by kernel_rfl) (KC.out _ gd) (fun hHeld => ?_)
 (refine Bj 0 7 rfl ?_; (try simp only [Act.put, Bf]))
 (refine Bj 1 8 rfl ?_; (try simp only [Act.put, Bf]))
 (refine Bj 2 9 rfl ?_; (try simp only [Act.put, Bf]))
 (refine Bj 3 10 rfl ?_; (try simp only [Act.put, Bf]))
 refine Bw 4 rfl (fun K hK => ?_)
 go_simp
 go_at_call 39
 refine NG.out.mono ?_
 rintro r w7 ⟨A1, n1, c1, A2, n2, c2, rfl, a1, a2, hk7, g7⟩
 have gd := Bi gd g7
 (refine hK.out _ _ (KC.out _ gd) (fun _ => ?_); clear hHeld hK K; rename_i hHeld; (try simp only [Act.put, Bf]))
 refine Bw 5 rfl (fun K hK => ?_)
 go_simp
 go_at_call 12
 refine (AD.out _ _ _ _ _ _ _ hk7 gd a1 a2).mono ?_
 rintro r w8 ⟨A3, n3, c3, A4, n4, c4, rfl, a3, a4, hk8, g8⟩
 have gd := Bi gd g8
 (refine hK.out _ _ (KC.out _ gd) (fun _ => ?_); clear hHeld hK K; rename_i hHeld; (try simp only [Act.put, Bf]))
 refine Bw 6 rfl (fun K hK => ?_)
 refine Bz rfl _ _ rfl rfl (w.heap.size + 1 + 1) _ A3 n3 c3 _ _ A4 n4 c4 _ (XR.out _ gd) rfl rfl (fun W1 y1 gW1 => ?_)
 (refine hK.out _ _ (KX.out _ _ gd gW1) (fun _ => ?_); clear hHeld hK K; rename_i hHeld; (try simp only [Act.put, Bf]))
 refine Cn ?_
 obtain ⟨u0, u1, u2, u3, u4, u5, -⟩ := y1.cell6
 go_wp2_with fail
 refine bodyPost_ret (v := _) ?_ rfl (RT.out _ _ _ _ _ _ _ _ a3 a4 hk8 gd _ gW1)
 simp [results, Tryz.results14, go_sem, u0, u1, u2, u3, u4, u5]
end Go.Proofs.YteffemhapnbaeaaGreatDoor
