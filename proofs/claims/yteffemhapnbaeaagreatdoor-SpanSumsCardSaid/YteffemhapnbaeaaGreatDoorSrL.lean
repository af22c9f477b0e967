/- A text of ours, with only what the claim's row needs (wip/tools/shake.py). -/
import Derived.Deep.RegionHeld3
import Derived.Test.YteffemhapnbaeaaGreatDoorSnS
import Derived.Test.YteffemhapnbaeaaGreatDoorNE
import Derived.Test.YteffemhapnbaeaaGreatDoorSnX
namespace Go.Proofs.YteffemhapnbaeaaGreatDoor
open Go.RowKit Num
set_option linter.unusedSimpArgs false
set_option linter.unusedVariables false
set_option maxRecDepth 100000

theorem after_one {base : Nat} {w0 W w12 : World} {v7 : Value} {l7 : List DV} {c1 : Obj} (hbase : base = w0.heap.size) (hW : Below base w0 W) (h7 : OwnD W base v7 l7) (g7 : (W.alloc c1).grownBy w12 v7.ownBlock) :
    Below base w0 w12 ∧ (∀ A n c xs, Arr W A n c xs → Arr w12 A n c xs) := by
  have hs1 : (W.alloc c1).heap.size = W.heap.size + 1 := by simp
  have hbs : base ≤ W.heap.size := by rw [hbase]; exact hW.size
  have h7' := h7.later (below_alloc (below_self _) c1)
  refine ⟨?_, ?_⟩
  · have t1 : Below base w0 (W.alloc c1) := hW.trans ((Below.refl _ _).alloc hbs c1)
    exact t1.trans (h7'.below g7 (by omega))
  · intro A n c xs ha
    exact h7'.arr (ha.below (below_alloc (below_self _) c1)) g7
theorem mul_pl {p q : Bool} {xs ys : List Int} {e f : Int} {D : Dy} (hw : Wf xs) (hw' : Wf ys) (h : mulD p q xs ys e f = some D) : PlD D := by
  unfold mulD at h
  split at h
  · exact mk_plain (Int.mul_nonneg (val_nonneg hw) (val_nonneg hw')) h
  · cases h
theorem best_ends {a b c d : Dy} (ha : PlD a) (hb : PlD b) (hc : PlD c) (hd : PlD d) : PlD (bestY false a b c d) ∧ PlD (bestY true a b c d) ∧ cDy (bestY false a b c d) (bestY true a b c d) ≤ 0 := by
  obtain ⟨L, la, lb, lc, ld⟩ := four_low a.e b.e c.e d.e
  have ea := ha.can la
  have eb := hb.can lb
  have ec := hc.can lc
  have ed := hd.can ld
  generalize sval a L = x at *
  generalize sval b L = y at *
  generalize sval c L = z at *
  generalize sval d L = u at *
  subst ea eb ec ed
  have q1 := best_pl (most := false) (best_pl (most := false) (best_pl (most := false) ha hb) hc) hd
  have q2 := best_pl (most := true) (best_pl (most := true) (best_pl (most := true) ha hb) hc) hd
  rw [best_can ha hb hc hd, best_can ha hb hc hd]
  refine ⟨q1, q2, ?_⟩
  rw [cDy_can q1 q2]
  refine cmpI_le ?_
  unfold bestI
  simp only [Bool.false_eq_true, if_false, if_true]
  omega
set_option maxHeartbeats 16000000 in
theorem rmul03 (p q s t : Bool) (A A' B B' : Option Addr) (n c n' c' m k m' k' : Nat) (xs ys us vs : List Int) (e f i j P : Int) (g : Nat) (bad : Bool) (D1 D2 D3 D4 : Dy) (w : World)
    (h : Arr w A n c xs) (h' : Arr w A' n' c' ys) (hB : Arr w B m k us) (hB' : Arr w B' m' k' vs) (hk : Wk w g P bad 38) (hn : n ≤ 100000) (hn' : n' ≤ 100000) (hm : m ≤ 100000) (hm' : m' ≤ 100000)
    (ho : takeB bad P [(⟨p, A, n, c, xs, e, q, A', n', c', ys, f⟩ : SVal), (⟨s, B, m, k, us, i, t, B', m', k', vs, j⟩ : SVal)] = false → mulD p s xs us e i = some D1 ∧ mulD p t xs vs e j = some D2 ∧ mulD q s ys us f i = some D3 ∧ mulD q t ys vs f j = some D4) :
    Calls Tryz.prog 17 #[.pointer (some ⟨g, 0, none⟩), .agg #[.bool p, .slice A n c, .int .i64 e, .bool q, .slice A' n' c', .int .i64 f], .agg #[.bool s, .slice B m k, .int .i64 i, .bool t, .slice B' m' k', .int .i64 j]] w
      (RetSp (if takeB bad P [(⟨p, A, n, c, xs, e, q, A', n', c', ys, f⟩ : SVal), (⟨s, B, m, k, us, i, t, B', m', k', vs, j⟩ : SVal)] = false then mulO P D1 D2 D3 D4 else none) g P 38 w) := by
  have hg := hk.lt
  have b2 : Below w.heap.size w (w.alloc (.cells #[.bool p, .slice A n c, .int .i64 e, .bool q, .slice A' n' c', .int .i64 f] 28)) := below_alloc (below_self w) _
  have b3 : Below w.heap.size w ((w.alloc (.cells #[.bool p, .slice A n c, .int .i64 e, .bool q, .slice A' n' c', .int .i64 f] 28)).alloc (.cells #[.bool s, .slice B m k, .int .i64 i, .bool t, .slice B' m' k', .int .i64 j] 28)) := below_alloc b2 _
  have b4 : Below w.heap.size w (((w.alloc (.cells #[.bool p, .slice A n c, .int .i64 e, .bool q, .slice A' n' c', .int .i64 f] 28)).alloc (.cells #[.bool s, .slice B m k, .int .i64 i, .bool t, .slice B' m' k', .int .i64 j] 28)).alloc (.cells #[.bool false, .slice none 0 0, .int .i64 0, .bool false, .slice none 0 0, .int .i64 0] 28)) := below_alloc b3 _
  have b5 : Below w.heap.size w ((((w.alloc (.cells #[.bool p, .slice A n c, .int .i64 e, .bool q, .slice A' n' c', .int .i64 f] 28)).alloc (.cells #[.bool s, .slice B m k, .int .i64 i, .bool t, .slice B' m' k', .int .i64 j] 28)).alloc (.cells #[.bool false, .slice none 0 0, .int .i64 0, .bool false, .slice none 0 0, .int .i64 0] 28)).alloc (.cells #[.bool p, .slice A n c, .int .i64 e, .bool q, .slice A' n' c', .int .i64 f, .bool s, .slice B m k, .int .i64 i, .bool t, .slice B' m' k', .int .i64 j] 28)) := below_alloc b4 _
  have s2 : (w.alloc (.cells #[.bool p, .slice A n c, .int .i64 e, .bool q, .slice A' n' c', .int .i64 f] 28)).heap.size = w.heap.size + 1 := by simp
  have s3 : ((w.alloc (.cells #[.bool p, .slice A n c, .int .i64 e, .bool q, .slice A' n' c', .int .i64 f] 28)).alloc (.cells #[.bool s, .slice B m k, .int .i64 i, .bool t, .slice B' m' k', .int .i64 j] 28)).heap.size = w.heap.size + 1 + 1 := by simp
  have s4 : (((w.alloc (.cells #[.bool p, .slice A n c, .int .i64 e, .bool q, .slice A' n' c', .int .i64 f] 28)).alloc (.cells #[.bool s, .slice B m k, .int .i64 i, .bool t, .slice B' m' k', .int .i64 j] 28)).alloc (.cells #[.bool false, .slice none 0 0, .int .i64 0, .bool false, .slice none 0 0, .int .i64 0] 28)).heap.size = w.heap.size + 1 + 1 + 1 := by simp
  have xsa := (box_new w #[.bool p, .slice A n c, .int .i64 e, .bool q, .slice A' n' c', .int .i64 f] 28).later (below_alloc (below_alloc (below_alloc (below_self _) (.cells #[.bool s, .slice B m k, .int .i64 i, .bool t, .slice B' m' k', .int .i64 j] 28)) (.cells #[.bool false, .slice none 0 0, .int .i64 0, .bool false, .slice none 0 0, .int .i64 0] 28)) (.cells #[.bool p, .slice A n c, .int .i64 e, .bool q, .slice A' n' c', .int .i64 f, .bool s, .slice B m k, .int .i64 i, .bool t, .slice B' m' k', .int .i64 j] 28))
  have xsb := (box_new (w.alloc (.cells #[.bool p, .slice A n c, .int .i64 e, .bool q, .slice A' n' c', .int .i64 f] 28)) #[.bool s, .slice B m k, .int .i64 i, .bool t, .slice B' m' k', .int .i64 j] 28).later (below_alloc (below_alloc (below_self _) (.cells #[.bool false, .slice none 0 0, .int .i64 0, .bool false, .slice none 0 0, .int .i64 0] 28)) (.cells #[.bool p, .slice A n c, .int .i64 e, .bool q, .slice A' n' c', .int .i64 f, .bool s, .slice B m k, .int .i64 i, .bool t, .slice B' m' k', .int .i64 j] 28))
  have xr := (box_new ((w.alloc (.cells #[.bool p, .slice A n c, .int .i64 e, .bool q, .slice A' n' c', .int .i64 f] 28)).alloc (.cells #[.bool s, .slice B m k, .int .i64 i, .bool t, .slice B' m' k', .int .i64 j] 28)) #[.bool false, .slice none 0 0, .int .i64 0, .bool false, .slice none 0 0, .int .i64 0] 28).later (below_alloc (below_self _) (.cells #[.bool p, .slice A n c, .int .i64 e, .bool q, .slice A' n' c', .int .i64 f, .bool s, .slice B m k, .int .i64 i, .bool t, .slice B' m' k', .int .i64 j] 28))
  have xl := box_new (((w.alloc (.cells #[.bool p, .slice A n c, .int .i64 e, .bool q, .slice A' n' c', .int .i64 f] 28)).alloc (.cells #[.bool s, .slice B m k, .int .i64 i, .bool t, .slice B' m' k', .int .i64 j] 28)).alloc (.cells #[.bool false, .slice none 0 0, .int .i64 0, .bool false, .slice none 0 0, .int .i64 0] 28)) #[.bool p, .slice A n c, .int .i64 e, .bool q, .slice A' n' c', .int .i64 f, .bool s, .slice B m k, .int .i64 i, .bool t, .slice B' m' k', .int .i64 j] 28
  rw [s2] at xsb
  rw [s3] at xr
  rw [s4] at xl
  have hk5 := hk.later b5
  have TK := rtake03 g (w.heap.size + 1 + 1 + 1) 2 P bad [(⟨p, A, n, c, xs, e, q, A', n', c', ys, f⟩ : SVal), (⟨s, B, m, k, us, i, t, B', m', k', vs, j⟩ : SVal)] rfl _ hk5 (svs_two (⟨p, A, n, c, xs, e, q, A', n', c', ys, f⟩ : SVal) (⟨s, B, m, k, us, i, t, B', m', k', vs, j⟩ : SVal) xl ⟨h.below b5, h'.below b5⟩ ⟨hB.below b5, hB'.below b5⟩) (by omega) (by decide) (fun s hs => by
    simp at hs
    rcases hs with rfl | rfl
    · exact ⟨by show n ≤ 1000000; omega, by show n' ≤ 1000000; omega⟩
    · exact ⟨by show m ≤ 1000000; omega, by show m' ≤ 1000000; omega⟩)
  obtain ⟨k0, k1, k2, k3, k4, k5, -⟩ := (box_new w #[.bool p, .slice A n c, .int .i64 e, .bool q, .slice A' n' c', .int .i64 f] 28).later (below_alloc (below_alloc (below_self _) (.cells #[.bool s, .slice B m k, .int .i64 i, .bool t, .slice B' m' k', .int .i64 j] 28)) (.cells #[.bool false, .slice none 0 0, .int .i64 0, .bool false, .slice none 0 0, .int .i64 0] 28)) |>.cell6
  obtain ⟨j0, j1, j2, j3, j4, j5, -⟩ := (box_new (w.alloc (.cells #[.bool p, .slice A n c, .int .i64 e, .bool q, .slice A' n' c', .int .i64 f] 28)) #[.bool s, .slice B m k, .int .i64 i, .bool t, .slice B' m' k', .int .i64 j] 28).later (below_alloc (below_self _) (.cells #[.bool false, .slice none 0 0, .int .i64 0, .bool false, .slice none 0 0, .int .i64 0] 28)) |>.cell6
  rw [s2] at j0 j1 j2 j3 j4 j5
  have TQ : takeB bad P [(⟨p, A, n, c, xs, e, q, A', n', c', ys, f⟩ : SVal), (⟨s, B, m, k, us, i, t, B', m', k', vs, j⟩ : SVal)] = false → 1 ≤ P ∧ P ≤ 8192 := take_prec
  generalize takeB bad P [(⟨p, A, n, c, xs, e, q, A', n', c', ys, f⟩ : SVal), (⟨s, B, m, k, us, i, t, B', m', k', vs, j⟩ : SVal)] = tb at *
  have TK := Lib.hid TK
  have HO := Lib.hid ho
  clear ho s2 s3 s4 b2 b3 b4 xl
  cases tb
  · rw [if_pos rfl]
    obtain ⟨o1, o2, o3, o4⟩ := HO.out rfl
    obtain ⟨P1, P2⟩ := TQ rfl
    have d1 := mul_pl h.wf hB.wf o1
    have d2 := mul_pl h.wf hB'.wf o2
    have d3 := mul_pl h'.wf hB.wf o3
    have d4 := mul_pl h'.wf hB'.wf o4
    have hlen : ∀ i, (wd (four D1 D2 D3 D4 i).m).length ≤ 1000000 := by
      intro i
      have q1 := d1.bounds.1
      have q2 := d2.bounds.1
      have q3 := d3.bounds.1
      have q4 := d4.bounds.1
      unfold four
      split
      · omega
      · split
        · omega
        · split <;> omega
    obtain ⟨oo, hm3⟩ : ∃ oo, oo = mulO P D1 D2 D3 D4 := ⟨_, rfl⟩
    rw [← hm3]
    unfold mulO at hm3
    obtain ⟨r1, r2, r3⟩ := best_ends d1 d2 d3 d4
    have hrt := right_mk r1 r2 r3
    have rb1 := r1.bounds.1
    have rb2 := r2.bounds.1
    clear d1 d2 d3 d4 r1 r2 r3 TQ
    go_enter Tryz.func17, Tryz.ntmps17
    go_wp2_with fail
    refine TK.out.mono ?_
    rintro r w7 ⟨rfl, hk7, g7⟩
    have xsa7 := xsa.grown g7 (show w.heap.size ≠ g by omega)
    have xsb7 := xsb.grown g7 (show w.heap.size + 1 ≠ g by omega)
    have xr7 := xr.grown g7 (show w.heap.size + 1 + 1 ≠ g by omega)
    have gw7 := grown_trans (grown_of b5 (some g)) g7
    have HA := hk.arr h gw7
    have HA' := hk.arr h' gw7
    have HB := hk.arr hB gw7
    have HB' := hk.arr hB' gw7
    clear k0 k1 k2 k3 k4 k5 j0 j1 j2 j3 j4 j5 xsa xsb xr TK HO b5
    obtain ⟨k0, k1, k2, k3, k4, k5, -⟩ := xsa7.cell6
    obtain ⟨j0, j1, j2, j3, j4, j5, -⟩ := (xsb7.later (below_alloc (below_self w7) (.cells #[.bool p, .slice A n c, .int .i64 e, .bool q, .slice A' n' c', .int .i64 f] 26))).cell6
    go_wp2_with fail
    have B0 : Below w7.heap.size w7 ((w7.alloc (.cells #[.bool p, .slice A n c, .int .i64 e, .bool q, .slice A' n' c', .int .i64 f] 26)).alloc (.cells #[.bool s, .slice B m k, .int .i64 i, .bool t, .slice B' m' k', .int .i64 j] 26)) := below_alloc (below_alloc (below_self _) _) _
    have xA := (box_new w7 #[.bool p, .slice A n c, .int .i64 e, .bool q, .slice A' n' c', .int .i64 f] 26).later (below_alloc (below_self _) (.cells #[.bool s, .slice B m k, .int .i64 i, .bool t, .slice B' m' k', .int .i64 j] 26))
    have xB := box_new (w7.alloc (.cells #[.bool p, .slice A n c, .int .i64 e, .bool q, .slice A' n' c', .int .i64 f] 26)) #[.bool s, .slice B m k, .int .i64 i, .bool t, .slice B' m' k', .int .i64 j] 26
    rw [show (w7.alloc (.cells #[.bool p, .slice A n c, .int .i64 e, .bool q, .slice A' n' c', .int .i64 f] 26)).heap.size = w7.heap.size + 1 by simp] at xB
    have hk0 := hk7.later B0
    have xr0 := xr7.later B0
    have gw0 := grown_on gw7 B0
    have ha1 := HA.below B0
    have ha2 := HA'.below B0
    have hb1 := HB.below B0
    have hb2 := HB'.below B0
    generalize hW : ((w7.alloc (.cells #[.bool p, .slice A n c, .int .i64 e, .bool q, .slice A' n' c', .int .i64 f] 26)).alloc (.cells #[.bool s, .slice B m k, .int .i64 i, .bool t, .slice B' m' k', .int .i64 j] 26)) = w0 at *
    have RV : ∀ (x y : DV) (D : Dy), x.ok w0 → y.ok w0 → x.n ≤ 100000 → y.n ≤ 100000 → mulD x.neg y.neg x.xs y.xs x.e y.e = some D → ∀ w', Below w0.heap.size w0 w' → Calls Tryz.prog 49 #[(.agg #[.bool x.neg, .slice x.A x.n x.c, .int .i64 x.e]), (.agg #[.bool y.neg, .slice y.A y.n y.c, .int .i64 y.e])] w' fun r w'' => ∃ A5 n5 c5, r = .returned (.tuple #[.agg #[.bool D.neg, .slice A5 n5 c5, .int .i64 D.e], .bool true]) ∧ Arr w'' A5 n5 c5 (wd D.m) ∧ Below w'.heap.size w' w'' := by
      intro x y D hx hy hxn hyn ho w' hb
      have R := rmul02 x.neg y.neg x.A y.A x.n x.c y.n y.c x.xs y.xs x.e y.e w' (Arr.below hx hb) (Arr.below hy hb) hxn hyn
      rw [ho] at R
      exact R
    have RDn : ∀ i1, i1 < 4 → ∀ w', Below w0.heap.size w0 w' → Calls Tryz.prog 49 #[(.agg #[.bool (pickD (⟨p, A, n, c, xs, e⟩ : DV) (⟨q, A', n', c', ys, f⟩ : DV) (i1 / 2)).neg, .slice (pickD (⟨p, A, n, c, xs, e⟩ : DV) (⟨q, A', n', c', ys, f⟩ : DV) (i1 / 2)).A (pickD (⟨p, A, n, c, xs, e⟩ : DV) (⟨q, A', n', c', ys, f⟩ : DV) (i1 / 2)).n (pickD (⟨p, A, n, c, xs, e⟩ : DV) (⟨q, A', n', c', ys, f⟩ : DV) (i1 / 2)).c, .int .i64 (pickD (⟨p, A, n, c, xs, e⟩ : DV) (⟨q, A', n', c', ys, f⟩ : DV) (i1 / 2)).e]), (.agg #[.bool (pickD (⟨s, B, m, k, us, i⟩ : DV) (⟨t, B', m', k', vs, j⟩ : DV) (i1 % 2)).neg, .slice (pickD (⟨s, B, m, k, us, i⟩ : DV) (⟨t, B', m', k', vs, j⟩ : DV) (i1 % 2)).A (pickD (⟨s, B, m, k, us, i⟩ : DV) (⟨t, B', m', k', vs, j⟩ : DV) (i1 % 2)).n (pickD (⟨s, B, m, k, us, i⟩ : DV) (⟨t, B', m', k', vs, j⟩ : DV) (i1 % 2)).c, .int .i64 (pickD (⟨s, B, m, k, us, i⟩ : DV) (⟨t, B', m', k', vs, j⟩ : DV) (i1 % 2)).e])] w' fun r w'' => ∃ A5 n5 c5, r = .returned (.tuple #[.agg #[.bool (four D1 D2 D3 D4 i1).neg, .slice A5 n5 c5, .int .i64 (four D1 D2 D3 D4 i1).e], .bool true]) ∧ Arr w'' A5 n5 c5 (wd (four D1 D2 D3 D4 i1).m) ∧ Below w'.heap.size w' w'' := by
      intro i1 hi1
      rcases (show i1 = 0 ∨ i1 = 1 ∨ i1 = 2 ∨ i1 = 3 by omega) with rfl | rfl | rfl | rfl
      · exact RV (⟨p, A, n, c, xs, e⟩ : DV) (⟨s, B, m, k, us, i⟩ : DV) D1 ha1 hb1 hn hm o1
      · exact RV (⟨p, A, n, c, xs, e⟩ : DV) (⟨t, B', m', k', vs, j⟩ : DV) D2 ha1 hb2 hn hm' o2
      · exact RV (⟨q, A', n', c', ys, f⟩ : DV) (⟨s, B, m, k, us, i⟩ : DV) D3 ha2 hb1 hn' hm o3
      · exact RV (⟨q, A', n', c', ys, f⟩ : DV) (⟨t, B', m', k', vs, j⟩ : DV) D4 ha2 hb2 hn' hm' o4
    have KC : ∀ w', Below w0.heap.size w0 w' → ((w'.cell? ⟨w7.heap.size, 0, none⟩ = some (.bool p) ∧ w'.cell? ⟨w7.heap.size, 1, none⟩ = some (.slice A n c) ∧ w'.cell? ⟨w7.heap.size, 2, none⟩ = some (.int .i64 e) ∧ w'.cell? ⟨w7.heap.size, 3, none⟩ = some (.bool q) ∧ w'.cell? ⟨w7.heap.size, 4, none⟩ = some (.slice A' n' c') ∧ w'.cell? ⟨w7.heap.size, 5, none⟩ = some (.int .i64 f)) ∧ (w'.cell? ⟨w7.heap.size + 1, 0, none⟩ = some (.bool s) ∧ w'.cell? ⟨w7.heap.size + 1, 1, none⟩ = some (.slice B m k) ∧ w'.cell? ⟨w7.heap.size + 1, 2, none⟩ = some (.int .i64 i) ∧ w'.cell? ⟨w7.heap.size + 1, 3, none⟩ = some (.bool t) ∧ w'.cell? ⟨w7.heap.size + 1, 4, none⟩ = some (.slice B' m' k') ∧ w'.cell? ⟨w7.heap.size + 1, 5, none⟩ = some (.int .i64 j))) := by
      intro w' hb
      obtain ⟨z0, z1, z2, z3, z4, z5, -⟩ := (xA.later hb).cell6
      obtain ⟨y0, y1, y2, y3, y4, y5, -⟩ := (xB.later hb).cell6
      exact ⟨⟨z0, z1, z2, z3, z4, z5⟩, ⟨y0, y1, y2, y3, y4, y5⟩⟩
    have RDn := Lib.hid RDn
    have KC := Lib.hid KC
    have HW := Lib.hid hW
    have l0g : g < w0.heap.size := hk0.lt
    have l0r : w.heap.size + 1 + 1 < w0.heap.size := xr0.lt
    have HRT := Lib.hid hrt
    have HM3 := Lib.hid hm3
    clear hW RV o1 o2 o3 o4 ha1 ha2 hb1 hb2 HA HA' HB HB' k0 k1 k2 k3 k4 k5 j0 j1 j2 j3 j4 j5 B0 xA xB xsa7 xsb7 xr7 hk7 hk5 gw7 g7 h h' hB hB' hrt hm3
    go_loopw [7, 10] (fun v7 vi wr => ∃ (i1 : Nat) (l7 : List DV), i1 ≤ 4 ∧ vi = .int .i64 i1 ∧ Hid (l7.length = i1) ∧ OwnD wr w0.heap.size v7 l7 ∧ Hid (∀ j (hj : j < l7.length), Rep (l7[j]) (four D1 D2 D3 D4 j)) ∧ Hid (∀ j (hj : j < l7.length), (l7[j]).ok wr) ∧ Below w0.heap.size w0 wr) (fun _ vi _ => 4 - (intOf vi).toNat)
    case atStart =>
      exact ⟨0, [], by omega, rfl, rfl, .inl ⟨rfl, rfl⟩, by intro j hj; simp at hj, by intro j hj; simp at hj, below_self _⟩
    case round =>
      obtain ⟨i1, l7, hi4, rfl, e7, O7, rep7, ok7, hW0⟩ := hrel
      by_cases h0 : i1 < 4
      · have RD : ∀ w', Below wr.heap.size wr w' → Calls Tryz.prog 49 #[(.agg #[.bool (pickD (⟨p, A, n, c, xs, e⟩ : DV) (⟨q, A', n', c', ys, f⟩ : DV) (i1 / 2)).neg, .slice (pickD (⟨p, A, n, c, xs, e⟩ : DV) (⟨q, A', n', c', ys, f⟩ : DV) (i1 / 2)).A (pickD (⟨p, A, n, c, xs, e⟩ : DV) (⟨q, A', n', c', ys, f⟩ : DV) (i1 / 2)).n (pickD (⟨p, A, n, c, xs, e⟩ : DV) (⟨q, A', n', c', ys, f⟩ : DV) (i1 / 2)).c, .int .i64 (pickD (⟨p, A, n, c, xs, e⟩ : DV) (⟨q, A', n', c', ys, f⟩ : DV) (i1 / 2)).e]), (.agg #[.bool (pickD (⟨s, B, m, k, us, i⟩ : DV) (⟨t, B', m', k', vs, j⟩ : DV) (i1 % 2)).neg, .slice (pickD (⟨s, B, m, k, us, i⟩ : DV) (⟨t, B', m', k', vs, j⟩ : DV) (i1 % 2)).A (pickD (⟨s, B, m, k, us, i⟩ : DV) (⟨t, B', m', k', vs, j⟩ : DV) (i1 % 2)).n (pickD (⟨s, B, m, k, us, i⟩ : DV) (⟨t, B', m', k', vs, j⟩ : DV) (i1 % 2)).c, .int .i64 (pickD (⟨s, B, m, k, us, i⟩ : DV) (⟨t, B', m', k', vs, j⟩ : DV) (i1 % 2)).e])] w' fun r w'' => ∃ A5 n5 c5, r = .returned (.tuple #[.agg #[.bool (four D1 D2 D3 D4 i1).neg, .slice A5 n5 c5, .int .i64 (four D1 D2 D3 D4 i1).e], .bool true]) ∧ Arr w'' A5 n5 c5 (wd (four D1 D2 D3 D4 i1).m) ∧ Below w'.heap.size w' w'' ∧ Below wr.heap.size wr w'' := fun w' hb => (RDn.out i1 h0 w' (below_on hW0 hb)).mono (by rintro r w'' ⟨A5, n5, c5, e5, h5, hb5⟩; exact ⟨A5, n5, c5, e5, h5, hb5, below_on hb hb5⟩)
        have KR := fun w' (hb : Below wr.heap.size wr w') => KC.out w' (below_on hW0 hb)
        have ad7 := fun (d : DV) (hd : Rep d (four D1 D2 D3 D4 i1)) => rep_add e7.out rep7.out hd
        have n7 : ∀ d : DV, (l7 ++ [d]).length = i1 + 1 := fun d => by simp [e7.out]
        have k7 : l7.length ≤ 1000 := by have := e7.out; omega
        generalize four D1 D2 D3 D4 i1 = DD at RD ad7
        obtain ⟨s1, m1, f1⟩ := DD
        have kk0 := hW0.size
        have wz0 : IntKind.i64.wrap 0 = 0 := by first | rfl | decide | go_num
        have wz1 : IntKind.i64.wrap 1 = 1 := by first | rfl | decide | go_num
        obtain ⟨⟨j0, j1, j2, j3, j4, j5⟩, ⟨y0, y1, y2, y3, y4, y5⟩⟩ := KR wr (below_self _)
        have AD7 := Lib.hid ad7
        have N7 := Lib.hid n7
        have KR := Lib.hid KR
        clear ad7 n7 RDn KC
        rcases (show i1 = 0 ∨ i1 = 1 ∨ i1 = 2 ∨ i1 = 3 by omega) with rfl | rfl | rfl | rfl
        all_goals
          simp only [pickD, Nat.reduceDiv, Nat.reduceMod, reduceIte, Nat.succ_ne_zero, Nat.reduceEqDiff, if_true, if_false, Nat.one_ne_zero] at RD
          have RD := Lib.hid RD
          go_wp2_with fail
          go_region_held3 (fun w' => ((w'.cell? ⟨w7.heap.size, 0, none⟩ = some (.bool p) ∧ w'.cell? ⟨w7.heap.size, 1, none⟩ = some (.slice A n c) ∧ w'.cell? ⟨w7.heap.size, 2, none⟩ = some (.int .i64 e) ∧ w'.cell? ⟨w7.heap.size, 3, none⟩ = some (.bool q) ∧ w'.cell? ⟨w7.heap.size, 4, none⟩ = some (.slice A' n' c') ∧ w'.cell? ⟨w7.heap.size, 5, none⟩ = some (.int .i64 f)) ∧ (w'.cell? ⟨w7.heap.size + 1, 0, none⟩ = some (.bool s) ∧ w'.cell? ⟨w7.heap.size + 1, 1, none⟩ = some (.slice B m k) ∧ w'.cell? ⟨w7.heap.size + 1, 2, none⟩ = some (.int .i64 i) ∧ w'.cell? ⟨w7.heap.size + 1, 3, none⟩ = some (.bool t) ∧ w'.cell? ⟨w7.heap.size + 1, 4, none⟩ = some (.slice B' m' k') ∧ w'.cell? ⟨w7.heap.size + 1, 5, none⟩ = some (.int .i64 j)))) (first | (refine KR.out _ ?_; (repeat (first | with_reducible assumption | with_reducible exact below_self _ | with_reducible refine below_drewN ?_ _ | with_reducible apply Below.drew | with_reducible refine below_alloc ?_ _ | (refine below_set ?_ _ _ (by first | exact Nat.le_refl _ | omega | (simp; done) | (simp; omega)) _))); done) | go_keep) (first | (go_at_call 49; refine (RD.out _ ?_).mono ?_; (repeat (first | with_reducible assumption | with_reducible exact below_self _ | with_reducible refine below_drewN ?_ _ | with_reducible apply Below.drew | with_reducible refine below_alloc ?_ _ | (refine below_set ?_ _ _ (by first | exact Nat.le_refl _ | omega | (simp; done) | (simp; omega)) _))); rintro r w8 ⟨A1, n1, c1, rfl, a1, hc1, hb1⟩; (first | (have NB := new_kept hc1; obtain ⟨v0, v1, v2, v3, v4, v5⟩ := NB.cell3) | skip)))
          all_goals
            first
              | (have MB := made_before (w := wr) (s := s1) (f := f1) a1 hb1 NB)
              | (have MB := made_after (w := wr) (s := s1) (f := f1) a1 hb1)
            obtain ⟨W10, k9, e1, e2, x9, a9, b9, l9⟩ := MB
            rw [← e1, ← e2]
            have hWX : Below w0.heap.size w0 W10 := below_on hW0 b9
            have O7' := O7.later b9
            have ok7' := Lib.hid (fun j (hj : j < l7.length) => ((ok7.out j hj).below b9))
            have zW : w0.heap.size ≤ W10.heap.size := hWX.size
            have zA : ∀ o : Obj, w0.heap.size ≤ (W10.alloc o).heap.size := fun o => by simp; omega
            clear e1 e2 hb1 a1 hc1 j0 j1 j2 j3 j4 j5 y0 y1 y2 y3 y4 y5 KR RD
            try clear NB v0 v1 v2 v3 v4 v5
            obtain ⟨t0, t1, t2, -, -, -⟩ := x9.cell3
            go_wp2_with (at_builtin; refine wp_appD rfl _ _ rfl w0.heap.size _ l7 rfl (O7'.later (below_alloc (below_self _) _)) ⟨s1, A1, n1, c1, wd m1, f1⟩ _ _ 26 rfl (box_new W10 _ _) k7 (zA _) ?_)
            intro v7' w12 hO7 g7 p7
            clear t0 t1 t2
            go_wp2_with fail
            obtain ⟨r3, r4⟩ := after_one rfl hWX O7' g7
            exact ⟨⟨_, _, Nat.succ_le_of_lt h0, by first | rfl | go_num, N7.out _, hO7, AD7.out _ ⟨rfl, rfl, rfl⟩, ok_add (d := ⟨s1, A1, n1, c1, wd m1, f1⟩) ok7'.out r4 a9, r3⟩, by first | decide | (simp [intOf]; done) | (simp [intOf]; omega)⟩
      · obtain rfl : i1 = 4 := by omega
        have d7 := OwnD.dvs O7 (by rw [e7.out]; decide) ok7.out
        rw [e7.out] at d7
        obtain ⟨g7, c7, rfl, v7⟩ := d7
        have L7 := Lib.hid (rleast_four_f e7.out rep7.out g7 c7 wr v7 hlen)
        have L8 := Lib.hid (fun w' (hb : Below wr.heap.size wr w') => rleast_four_t e7.out rep7.out g7 c7 w' (v7.later hb) hlen)
        have xr1 := xr0.later hW0
        have hk1 := hk0.later hW0
        have gw1 := grown_on gw0 hW0
        clear RDn KC O7 rep7 ok7 hlen
        go_wp2_with fail
        refine L7.out.mono ?_
        rintro r w2 ⟨A1, n1, c1, rfl, a1, hb2⟩
        go_wp2_with fail
        refine (L8.out _ hb2).mono ?_
        rintro r w3 ⟨A2, n2, c2, rfl, a2, hb3⟩
        have hb13 := below_on hb2 hb3
        have xr3 := xr1.later hb13
        have hk3 := hk1.later hb13
        have gw3 := grown_on gw1 hb13
        have a1 := a1.below hb3
        have hoo : oo = twoO false (cutO (bestY false D1 D2 D3 D4).neg (wd (bestY false D1 D2 D3 D4).m) (bestY false D1 D2 D3 D4).e P false) (cutO (bestY true D1 D2 D3 D4).neg (wd (bestY true D1 D2 D3 D4).m) (bestY true D1 D2 D3 D4).e P true) := HM3.out
        have hrt := HRT.out
        clear HM3 HRT L7 L8
        generalize bestY false D1 D2 D3 D4 = LL at *
        generalize bestY true D1 D2 D3 D4 = UU at *
        obtain ⟨ln, lm, le⟩ := LL
        obtain ⟨un, um, ue⟩ := UU
        simp only at hrt hoo rb1 rb2 a1 a2
        have OT := rout03 ln un A1 A2 n1 c1 n2 c2 (wd lm) (wd um) le ue P g false w3 a1 a2 hk3 (by rw [← a1.len]; omega) (by rw [← a2.len]; omega)
        have htk : takeB false P [⟨ln, A1, n1, c1, wd lm, le, un, A2, n2, c2, wd um, ue⟩] = false := by
          rw [take_one, hrt, decide_eq_false (show ¬ P < 1 by omega), decide_eq_false (show ¬ 8192 < P by omega)]; rfl
        rw [htk, ← hoo] at OT
        have OT := Lib.hid OT
        clear hoo hrt htk
        go_wp2_with fail
        refine OT.out.mono ?_
        rintro r w4 ⟨A3, n3, c3, A4, n4, c4, rfl, a3, a4, hk4, g4⟩
        have xr4 := xr3.grown g4 (show w.heap.size + 1 + 1 ≠ g by omega)
        have gw4 := grown_trans gw3 g4
        go_wp2_with (refine wp_put6 rfl _ _ rfl rfl (w.heap.size + 1 + 1) _ A3 n3 c3 _ _ A4 n4 c4 _ xr4 rfl rfl (fun W1 y1 gW1 => ?_); obtain ⟨z3, z4, z5, z6, z7, z8, -⟩ := y1.cell6)
        refine bodyPost_ret (v := _) ?_ rfl (retSp_put (o := oo) a3 a4 xr4 hk4 gw4 (show g ≠ w.heap.size + 1 + 1 by omega) (by omega) gW1)
        simp [results, Tryz.results17, go_sem, z3, z4, z5, z6, z7, z8]
  · rw [if_neg (fun hh => by cases hh)]
    go_enter Tryz.func17, Tryz.ntmps17
    go_wp2_with fail
    refine TK.out.mono ?_
    rintro r w6 ⟨rfl, hk6, g6⟩
    have xr6 := xr.grown g6 (show w.heap.size + 1 + 1 ≠ g by omega)
    have gw := grown_trans (grown_of b5 (some g)) g6
    (go_wp2_with (refine wp_put6 rfl _ _ rfl rfl (w.heap.size + 1 + 1) false none 0 0 0 false none 0 0 0 xr6 rfl rfl (fun W1 y1 gW1 => ?_); have hk9 := (hk6).other gW1 (show g ≠ w.heap.size + 1 + 1 by omega); obtain ⟨u0, u1, u2, u3, u4, u5, -⟩ := y1.cell6); refine bodyPost_ret (v := .agg #[.bool false, .slice none 0 0, .int .i64 0, .bool false, .slice none 0 0, .int .i64 0]) ?_ rfl (retSp_none hk9 (grown_own gw gW1 (by omega))); simp [results, Tryz.results17, go_sem, u0, u1, u2, u3, u4, u5])
end Go.Proofs.YteffemhapnbaeaaGreatDoor
