/- A text of ours, with only what the claim's row needs (wip/tools/shake.py). -/
import Derived.Deep.RegionHeld3
import Derived.Test.YteffemhapnbaeaaGreatDoorMV
namespace Go.Proofs.YteffemhapnbaeaaGreatDoor
open Go.RowKit Num
variable {tw : TypeId}
set_option linter.unusedSimpArgs false
set_option linter.unusedVariables false
set_option maxRecDepth 100000

theorem svs_two {w : World} {h : Nat} (a b : SVal) {ty : TypeId} (hb : Box w h #[.bool a.p, .slice a.A a.n a.c, .int .i64 a.e, .bool a.q, .slice a.A' a.n' a.c', .int .i64 a.f, .bool b.p, .slice b.A b.n b.c, .int .i64 b.e, .bool b.q, .slice b.A' b.n' b.c', .int .i64 b.f] ty)
    (ha : a.ok w) (hb' : b.ok w) : SVs w h [a, b] := by
  have two : ∀ j, j < [a, b].length → j = 0 ∨ j = 1 := fun j hj => by simp at hj; omega
  refine ⟨hb.lt, fun j hj => ?_, fun j hj => ?_, fun j hj => ?_, fun j hj => ?_, fun j hj => ?_, fun j hj => ?_, fun j hj => ?_⟩ <;> rcases two j hj with rfl | rfl
  all_goals first | exact ha | exact hb' | exact hb.cell _
theorem spmin_four {D1 D2 D3 D4 : Dy} {h : Nat} {A1 A2 A3 A4 : Option Addr} {n1 c1 n2 c2 n3 c3 n4 c4 : Nat} (w : World) (hd : DVs w h [⟨D1.neg, A1, n1, c1, wd D1.m, D1.e⟩, ⟨D2.neg, A2, n2, c2, wd D2.m, D2.e⟩, ⟨D3.neg, A3, n3, c3, wd D3.m, D3.e⟩, ⟨D4.neg, A4, n4, c4, wd D4.m, D4.e⟩]) :
    Calls Tryz.prog 46 #[.slice (some ⟨h, 0, none⟩) 4 4, .func (.func 47) #[] #[]] w (RetA (bestY false D1 D2 D3 D4) w) := by
  refine (spmin h 4 4 _ rfl w hd (Nat.zero_lt_succ _) (by decide)).mono ?_
  rintro r w' ⟨rfl, ha, hb⟩
  have hr := best_rep false (a := ⟨D1.neg, A1, n1, c1, wd D1.m, D1.e⟩) (b := ⟨D2.neg, A2, n2, c2, wd D2.m, D2.e⟩) (c := ⟨D3.neg, A3, n3, c3, wd D3.m, D3.e⟩) (d := ⟨D4.neg, A4, n4, c4, wd D4.m, D4.e⟩) ⟨rfl, rfl, rfl⟩ ⟨rfl, rfl, rfl⟩ ⟨rfl, rfl, rfl⟩ ⟨rfl, rfl, rfl⟩
  rw [hr.xs] at ha
  exact ⟨_, _, _, by rw [hr.neg, hr.e], ha.below hb, hb⟩
theorem spmax_four {D1 D2 D3 D4 : Dy} {h : Nat} {A1 A2 A3 A4 : Option Addr} {n1 c1 n2 c2 n3 c3 n4 c4 : Nat} (w : World) (hd : DVs w h [⟨D1.neg, A1, n1, c1, wd D1.m, D1.e⟩, ⟨D2.neg, A2, n2, c2, wd D2.m, D2.e⟩, ⟨D3.neg, A3, n3, c3, wd D3.m, D3.e⟩, ⟨D4.neg, A4, n4, c4, wd D4.m, D4.e⟩]) :
    Calls Tryz.prog 48 #[.slice (some ⟨h, 0, none⟩) 4 4, .func (.func 47) #[] #[]] w (RetA (bestY true D1 D2 D3 D4) w) := by
  refine (spmax h 4 4 _ rfl w hd (Nat.zero_lt_succ _) (by decide)).mono ?_
  rintro r w' ⟨rfl, ha, hb⟩
  have hr := best_rep true (a := ⟨D1.neg, A1, n1, c1, wd D1.m, D1.e⟩) (b := ⟨D2.neg, A2, n2, c2, wd D2.m, D2.e⟩) (c := ⟨D3.neg, A3, n3, c3, wd D3.m, D3.e⟩) (d := ⟨D4.neg, A4, n4, c4, wd D4.m, D4.e⟩) ⟨rfl, rfl, rfl⟩ ⟨rfl, rfl, rfl⟩ ⟨rfl, rfl, rfl⟩ ⟨rfl, rfl, rfl⟩
  rw [hr.xs] at ha
  exact ⟨_, _, _, by rw [hr.neg, hr.e], ha.below hb, hb⟩
def set6 (w : World) (k : Nat) (p : Bool) (A : Option Addr) (n c : Nat) (e : Int) (q : Bool) (A' : Option Addr) (n' c' : Nat) (f : Int) : World :=
  (((((w.setCell ⟨k, 0, none⟩ (.bool p)).setCell ⟨k, 1, none⟩ (.slice A n c)).setCell ⟨k, 2, none⟩ (.int .i64 e)).setCell ⟨k, 3, none⟩ (.bool q)).setCell ⟨k, 4, none⟩ (.slice A' n' c')).setCell ⟨k, 5, none⟩ (.int .i64 f)
theorem set6_grown (w : World) (k : Nat) (p : Bool) (A : Option Addr) (n c : Nat) (e : Int) (q : Bool) (A' : Option Addr) (n' c' : Nat) (f : Int) : w.grownBy (set6 w k p A n c e q A' n' c' f) (some k) :=
  grown_trans (grown_trans (grown_trans (grown_trans (grown_trans (grown_set w k 0 _) (grown_set _ k 1 _)) (grown_set _ k 2 _)) (grown_set _ k 3 _)) (grown_set _ k 4 _)) (grown_set _ k 5 _)
theorem retSp_set6 {w w4 : World} {L U : Dy} {A A' : Option Addr} {n c n' c' g k : Nat} {P : Int} {tw t : TypeId} (h1 : Arr w4 A n c (wd L.m)) (h2 : Arr w4 A' n' c' (wd U.m)) (hb : Box w4 k #[.bool false, .slice none 0 0, .int .i64 0, .bool false, .slice none 0 0, .int .i64 0] t)
    (hk : Wk w4 g P false tw) (hg : w.grownBy w4 (some g)) (hne : g ≠ k) (hkk : w.heap.size ≤ k) :
    RetSp (some (L, U)) g P tw w (.returned (.agg #[.bool L.neg, .slice A n c, .int .i64 L.e, .bool U.neg, .slice A' n' c', .int .i64 U.e])) (set6 w4 k L.neg A n c L.e U.neg A' n' c' U.e) := by
  have g6 := set6_grown w4 k L.neg A n c L.e U.neg A' n' c' U.e
  have no := no6 (a := .bool false) (b := .slice none 0 0) (c := .int .i64 0) (d := .bool false) (e := .slice none 0 0) (f := .int .i64 0) (by simp) (by simp) (by simp) (by simp) (by simp) (by simp)
  exact ⟨A, n, c, A', n', c', rfl, h1.grown hb no g6, h2.grown hb no g6, hk.other g6 hne, grown_own hg g6 hkk⟩
set_option maxHeartbeats 16000000 in
theorem spdiv (p q s t : Bool) (A A' B B' : Option Addr) (n c n' c' m k m' k' : Nat) (xs ys us vs : List Int) (e f i j P : Int) (g : Nat) (bad : Bool) (D1 D2 D3 D4 E1 E2 E3 E4 : Dy) (w : World)
    (h : Arr w A n c xs) (h' : Arr w A' n' c' ys) (hB : Arr w B m k us) (hB' : Arr w B' m' k' vs) (hT : Tz w) (hk : Wk w g P bad tw)
    (ho : takeB bad P [(⟨p, A, n, c, xs, e, q, A', n', c', ys, f⟩ : SVal), (⟨s, B, m, k, us, i, t, B', m', k', vs, j⟩ : SVal)] = false → signS s t us vs i j ≠ 0 →
      (overD p s xs us e i P false = some D1 ∧ overD p t xs vs e j P false = some D2 ∧ overD q s ys us f i P false = some D3 ∧ overD q t ys vs f j P false = some D4) ∧
      (overD p s xs us e i P true = some E1 ∧ overD p t xs vs e j P true = some E2 ∧ overD q s ys us f i P true = some E3 ∧ overD q t ys vs f j P true = some E4)) :
    Calls Tryz.prog 27 #[.pointer (some ⟨g, 0, none⟩), .agg #[.bool p, .slice A n c, .int .i64 e, .bool q, .slice A' n' c', .int .i64 f], .agg #[.bool s, .slice B m k, .int .i64 i, .bool t, .slice B' m' k', .int .i64 j]] w
      (RetSp (if takeB bad P [(⟨p, A, n, c, xs, e, q, A', n', c', ys, f⟩ : SVal), (⟨s, B, m, k, us, i, t, B', m', k', vs, j⟩ : SVal)] = false ∧ signS s t us vs i j ≠ 0 then some (bestY false D1 D2 D3 D4, bestY true E1 E2 E3 E4) else none) g P tw w) := by
  have hg := hk.lt
  have b1 : Below w.heap.size w (w.alloc (.cells #[.pointer (some ⟨g, 0, none⟩)] 31)) := below_alloc (below_self w) _
  have b2 : Below w.heap.size w ((w.alloc (.cells #[.pointer (some ⟨g, 0, none⟩)] 31)).alloc (.cells #[.bool p, .slice A n c, .int .i64 e, .bool q, .slice A' n' c', .int .i64 f] 28)) := below_alloc b1 _
  have b3 : Below w.heap.size w (((w.alloc (.cells #[.pointer (some ⟨g, 0, none⟩)] 31)).alloc (.cells #[.bool p, .slice A n c, .int .i64 e, .bool q, .slice A' n' c', .int .i64 f] 28)).alloc (.cells #[.bool s, .slice B m k, .int .i64 i, .bool t, .slice B' m' k', .int .i64 j] 28)) := below_alloc b2 _
  have b4 : Below w.heap.size w ((((w.alloc (.cells #[.pointer (some ⟨g, 0, none⟩)] 31)).alloc (.cells #[.bool p, .slice A n c, .int .i64 e, .bool q, .slice A' n' c', .int .i64 f] 28)).alloc (.cells #[.bool s, .slice B m k, .int .i64 i, .bool t, .slice B' m' k', .int .i64 j] 28)).alloc (.cells #[.bool false, .slice none 0 0, .int .i64 0, .bool false, .slice none 0 0, .int .i64 0] 28)) := below_alloc b3 _
  have b5 : Below w.heap.size w (((((w.alloc (.cells #[.pointer (some ⟨g, 0, none⟩)] 31)).alloc (.cells #[.bool p, .slice A n c, .int .i64 e, .bool q, .slice A' n' c', .int .i64 f] 28)).alloc (.cells #[.bool s, .slice B m k, .int .i64 i, .bool t, .slice B' m' k', .int .i64 j] 28)).alloc (.cells #[.bool false, .slice none 0 0, .int .i64 0, .bool false, .slice none 0 0, .int .i64 0] 28)).alloc (.cells #[.bool p, .slice A n c, .int .i64 e, .bool q, .slice A' n' c', .int .i64 f, .bool s, .slice B m k, .int .i64 i, .bool t, .slice B' m' k', .int .i64 j] 28)) := below_alloc b4 _
  have s1 : (w.alloc (.cells #[.pointer (some ⟨g, 0, none⟩)] 31)).heap.size = w.heap.size + 1 := by simp
  have s2 : ((w.alloc (.cells #[.pointer (some ⟨g, 0, none⟩)] 31)).alloc (.cells #[.bool p, .slice A n c, .int .i64 e, .bool q, .slice A' n' c', .int .i64 f] 28)).heap.size = w.heap.size + 1 + 1 := by simp
  have s3 : (((w.alloc (.cells #[.pointer (some ⟨g, 0, none⟩)] 31)).alloc (.cells #[.bool p, .slice A n c, .int .i64 e, .bool q, .slice A' n' c', .int .i64 f] 28)).alloc (.cells #[.bool s, .slice B m k, .int .i64 i, .bool t, .slice B' m' k', .int .i64 j] 28)).heap.size = w.heap.size + 1 + 1 + 1 := by simp
  have s4 : ((((w.alloc (.cells #[.pointer (some ⟨g, 0, none⟩)] 31)).alloc (.cells #[.bool p, .slice A n c, .int .i64 e, .bool q, .slice A' n' c', .int .i64 f] 28)).alloc (.cells #[.bool s, .slice B m k, .int .i64 i, .bool t, .slice B' m' k', .int .i64 j] 28)).alloc (.cells #[.bool false, .slice none 0 0, .int .i64 0, .bool false, .slice none 0 0, .int .i64 0] 28)).heap.size = w.heap.size + 1 + 1 + 1 + 1 := by simp
  have xa := (box_new w #[.pointer (some ⟨g, 0, none⟩)] 31).later (below_alloc (below_alloc (below_alloc (below_alloc (below_self _) (.cells #[.bool p, .slice A n c, .int .i64 e, .bool q, .slice A' n' c', .int .i64 f] 28)) (.cells #[.bool s, .slice B m k, .int .i64 i, .bool t, .slice B' m' k', .int .i64 j] 28)) (.cells #[.bool false, .slice none 0 0, .int .i64 0, .bool false, .slice none 0 0, .int .i64 0] 28)) (.cells #[.bool p, .slice A n c, .int .i64 e, .bool q, .slice A' n' c', .int .i64 f, .bool s, .slice B m k, .int .i64 i, .bool t, .slice B' m' k', .int .i64 j] 28))
  have xsa := (box_new (w.alloc (.cells #[.pointer (some ⟨g, 0, none⟩)] 31)) #[.bool p, .slice A n c, .int .i64 e, .bool q, .slice A' n' c', .int .i64 f] 28).later (below_alloc (below_alloc (below_alloc (below_self _) (.cells #[.bool s, .slice B m k, .int .i64 i, .bool t, .slice B' m' k', .int .i64 j] 28)) (.cells #[.bool false, .slice none 0 0, .int .i64 0, .bool false, .slice none 0 0, .int .i64 0] 28)) (.cells #[.bool p, .slice A n c, .int .i64 e, .bool q, .slice A' n' c', .int .i64 f, .bool s, .slice B m k, .int .i64 i, .bool t, .slice B' m' k', .int .i64 j] 28))
  have xsb := (box_new ((w.alloc (.cells #[.pointer (some ⟨g, 0, none⟩)] 31)).alloc (.cells #[.bool p, .slice A n c, .int .i64 e, .bool q, .slice A' n' c', .int .i64 f] 28)) #[.bool s, .slice B m k, .int .i64 i, .bool t, .slice B' m' k', .int .i64 j] 28).later (below_alloc (below_alloc (below_self _) (.cells #[.bool false, .slice none 0 0, .int .i64 0, .bool false, .slice none 0 0, .int .i64 0] 28)) (.cells #[.bool p, .slice A n c, .int .i64 e, .bool q, .slice A' n' c', .int .i64 f, .bool s, .slice B m k, .int .i64 i, .bool t, .slice B' m' k', .int .i64 j] 28))
  have xr := (box_new (((w.alloc (.cells #[.pointer (some ⟨g, 0, none⟩)] 31)).alloc (.cells #[.bool p, .slice A n c, .int .i64 e, .bool q, .slice A' n' c', .int .i64 f] 28)).alloc (.cells #[.bool s, .slice B m k, .int .i64 i, .bool t, .slice B' m' k', .int .i64 j] 28)) #[.bool false, .slice none 0 0, .int .i64 0, .bool false, .slice none 0 0, .int .i64 0] 28).later (below_alloc (below_self _) (.cells #[.bool p, .slice A n c, .int .i64 e, .bool q, .slice A' n' c', .int .i64 f, .bool s, .slice B m k, .int .i64 i, .bool t, .slice B' m' k', .int .i64 j] 28))
  have xl := box_new ((((w.alloc (.cells #[.pointer (some ⟨g, 0, none⟩)] 31)).alloc (.cells #[.bool p, .slice A n c, .int .i64 e, .bool q, .slice A' n' c', .int .i64 f] 28)).alloc (.cells #[.bool s, .slice B m k, .int .i64 i, .bool t, .slice B' m' k', .int .i64 j] 28)).alloc (.cells #[.bool false, .slice none 0 0, .int .i64 0, .bool false, .slice none 0 0, .int .i64 0] 28)) #[.bool p, .slice A n c, .int .i64 e, .bool q, .slice A' n' c', .int .i64 f, .bool s, .slice B m k, .int .i64 i, .bool t, .slice B' m' k', .int .i64 j] 28
  rw [s1] at xsa
  rw [s2] at xsb
  rw [s3] at xr
  rw [s4] at xl
  have hk5 := hk.later b5
  have TK := sptake g (w.heap.size + 1 + 1 + 1 + 1) 2 P bad [(⟨p, A, n, c, xs, e, q, A', n', c', ys, f⟩ : SVal), (⟨s, B, m, k, us, i, t, B', m', k', vs, j⟩ : SVal)] rfl _ hk5 (svs_two (⟨p, A, n, c, xs, e, q, A', n', c', ys, f⟩ : SVal) (⟨s, B, m, k, us, i, t, B', m', k', vs, j⟩ : SVal) xl ⟨h.below b5, h'.below b5⟩ ⟨hB.below b5, hB'.below b5⟩) (by omega) (by decide)
  have m0 := (box_new w #[.pointer (some ⟨g, 0, none⟩)] 31).later (below_alloc (below_alloc (below_alloc (below_self _) (.cells #[.bool p, .slice A n c, .int .i64 e, .bool q, .slice A' n' c', .int .i64 f] 28)) (.cells #[.bool s, .slice B m k, .int .i64 i, .bool t, .slice B' m' k', .int .i64 j] 28)) (.cells #[.bool false, .slice none 0 0, .int .i64 0, .bool false, .slice none 0 0, .int .i64 0] 28)) |>.cell 0
  obtain ⟨k0, k1, k2, k3, k4, k5, -⟩ := (box_new (w.alloc (.cells #[.pointer (some ⟨g, 0, none⟩)] 31)) #[.bool p, .slice A n c, .int .i64 e, .bool q, .slice A' n' c', .int .i64 f] 28).later (below_alloc (below_alloc (below_self _) (.cells #[.bool s, .slice B m k, .int .i64 i, .bool t, .slice B' m' k', .int .i64 j] 28)) (.cells #[.bool false, .slice none 0 0, .int .i64 0, .bool false, .slice none 0 0, .int .i64 0] 28)) |>.cell6
  obtain ⟨j0, j1, j2, j3, j4, j5, -⟩ := (box_new ((w.alloc (.cells #[.pointer (some ⟨g, 0, none⟩)] 31)).alloc (.cells #[.bool p, .slice A n c, .int .i64 e, .bool q, .slice A' n' c', .int .i64 f] 28)) #[.bool s, .slice B m k, .int .i64 i, .bool t, .slice B' m' k', .int .i64 j] 28).later (below_alloc (below_self _) (.cells #[.bool false, .slice none 0 0, .int .i64 0, .bool false, .slice none 0 0, .int .i64 0] 28)) |>.cell6
  rw [s1] at k0 k1 k2 k3 k4 k5
  rw [s2] at j0 j1 j2 j3 j4 j5
  generalize takeB bad P [(⟨p, A, n, c, xs, e, q, A', n', c', ys, f⟩ : SVal), (⟨s, B, m, k, us, i, t, B', m', k', vs, j⟩ : SVal)] = tb at *
  have TK := Lib.hid TK
  have HO := Lib.hid ho
  clear ho s1 s2 s3 s4 b1 b2 b3 b4 xl
  cases tb
  · by_cases hsg : signS s t us vs i j = 0
    · rw [if_neg (fun hh => hh.2 hsg)]
      go_enter Tryz.func27, Tryz.ntmps27
      go_wp2_with fail
      refine TK.out.mono ?_
      rintro r w6 ⟨rfl, hk6, g6⟩
      have xa6 := xa.grown g6 (show w.heap.size ≠ g by omega)
      have xsb6 := xsb.grown g6 (show w.heap.size + 1 + 1 ≠ g by omega)
      have xr6 := xr.grown g6 (show w.heap.size + 1 + 1 + 1 ≠ g by omega)
      have gw := grown_trans (grown_of b5 (some g)) g6
      have SG := spsign s t B B' m k m' k' us vs i j w6 (hk.arr hB gw) (hk.arr hB' gw)
      rw [hsg] at SG
      have SG := Lib.hid SG
      clear k0 k1 k2 k3 k4 k5 j0 j1 j2 j3 j4 j5 m0 hsg
      obtain ⟨j0, j1, j2, j3, j4, j5, -⟩ := xsb6.cell6
      go_wp2_with fail
      refine SG.out.mono ?_
      rintro r w7 ⟨rfl, hb7⟩
      have m7 := (xa6.later hb7).cell 0
      have hk7 := hk6.later hb7
      have xr7 := xr6.later hb7
      have gw7 := grown_on gw hb7
      have FL := Lib.hid (spfail g P false w7 hk7)
      clear j0 j1 j2 j3 j4 j5
      go_wp2_with fail
      refine FL.out.mono ?_
      rintro r w8 ⟨rfl, hk8, g8⟩
      have xr8 := xr7.grown g8 (show w.heap.size + 1 + 1 + 1 ≠ g by omega)
      have gw8 := grown_trans gw7 g8
      (go_wp2_with (refine wp_put6 rfl _ _ rfl rfl (w.heap.size + 1 + 1 + 1) false none 0 0 0 false none 0 0 0 xr8 rfl rfl (fun W1 y1 gW1 => ?_); have hk9 := (hk8).other gW1 (show g ≠ w.heap.size + 1 + 1 + 1 by omega); obtain ⟨u0, u1, u2, u3, u4, u5, -⟩ := y1.cell6); refine bodyPost_ret (v := .agg #[.bool false, .slice none 0 0, .int .i64 0, .bool false, .slice none 0 0, .int .i64 0]) ?_ rfl (retSp_none hk9 (grown_own gw8 gW1 (by omega))); simp [results, Tryz.results27, go_sem, u0, u1, u2, u3, u4, u5])
    · rw [if_pos ⟨rfl, hsg⟩]
      obtain ⟨⟨o1, o2, o3, o4⟩, q1, q2, q3, q4⟩ := HO.out rfl hsg
      go_enter Tryz.func27, Tryz.ntmps27
      go_wp2_with fail
      refine TK.out.mono ?_
      rintro r w6 ⟨rfl, hk6, g6⟩
      have xa6 := xa.grown g6 (show w.heap.size ≠ g by omega)
      have xsa6 := xsa.grown g6 (show w.heap.size + 1 ≠ g by omega)
      have xsb6 := xsb.grown g6 (show w.heap.size + 1 + 1 ≠ g by omega)
      have xr6 := xr.grown g6 (show w.heap.size + 1 + 1 + 1 ≠ g by omega)
      have gw := grown_trans (grown_of b5 (some g)) g6
      have SG := Lib.hid (spsign s t B B' m k m' k' us vs i j w6 (hk.arr hB gw) (hk.arr hB' gw))
      have dsg : (signS s t us vs i j == 0) = false := by simp [hsg]
      generalize signS s t us vs i j = ss at *
      clear k0 k1 k2 k3 k4 k5 j0 j1 j2 j3 j4 j5 m0 hsg
      obtain ⟨j0, j1, j2, j3, j4, j5, -⟩ := xsb6.cell6
      go_wp2_with fail
      refine SG.out.mono ?_
      rintro r w7 ⟨rfl, hb7⟩
      have xa7 := xa6.later hb7
      have hk7 := hk6.later hb7
      have xr7 := xr6.later hb7
      have gw7 := grown_on gw hb7
      have hA7 := hk.arr h gw7
      have hA7' := hk.arr h' gw7
      have hB7 := hk.arr hB gw7
      have hB7' := hk.arr hB' gw7
      have hT7 := hk.tz hT gw7
      have xsa7 := xsa6.later hb7
      have xsb7 := xsb6.later hb7
      have OF : ∀ w', Below w7.heap.size w7 w' → Calls Tryz.prog 63 #[.bool false, .pointer (some ⟨w.heap.size + 1, 0, none⟩), .pointer (some ⟨w.heap.size + 1 + 1, 0, none⟩), .pointer (some ⟨w.heap.size, 0, none⟩)] w' fun r w'' => ∃ h A1 n1 c1 A2 n2 c2 A3 n3 c3 A4 n4 c4, r = .returned (.slice (some ⟨h, 0, none⟩) 4 4) ∧ DVs w'' h [⟨D1.neg, A1, n1, c1, wd D1.m, D1.e⟩, ⟨D2.neg, A2, n2, c2, wd D2.m, D2.e⟩, ⟨D3.neg, A3, n3, c3, wd D3.m, D3.e⟩, ⟨D4.neg, A4, n4, c4, wd D4.m, D4.e⟩] ∧ Below w'.heap.size w' w'' ∧ Below w7.heap.size w7 w'' := by
        intro w' hb
        refine (spdiv1 p q s t A A' B B' n c n' c' m k m' k' xs ys us vs e f i j P false _ _ _ g false D1 D2 D3 D4 w' (hA7.below hb) (hA7'.below hb) (hB7.below hb) (hB7'.below hb) (hT7.below hb) (hk7.later hb) _ _ _ (xa7.later hb) (xsa7.later hb) (xsb7.later hb) o1 o2 o3 o4).mono ?_
        rintro r w'' ⟨h, A1, n1, c1, A2, n2, c2, A3, n3, c3, A4, n4, c4, rfl, hd, hb2⟩
        exact ⟨h, A1, n1, c1, A2, n2, c2, A3, n3, c3, A4, n4, c4, rfl, hd, hb2, below_on hb hb2⟩
      have OT : ∀ w', Below w7.heap.size w7 w' → Calls Tryz.prog 63 #[.bool true, .pointer (some ⟨w.heap.size + 1, 0, none⟩), .pointer (some ⟨w.heap.size + 1 + 1, 0, none⟩), .pointer (some ⟨w.heap.size, 0, none⟩)] w' fun r w'' => ∃ h A1 n1 c1 A2 n2 c2 A3 n3 c3 A4 n4 c4, r = .returned (.slice (some ⟨h, 0, none⟩) 4 4) ∧ DVs w'' h [⟨E1.neg, A1, n1, c1, wd E1.m, E1.e⟩, ⟨E2.neg, A2, n2, c2, wd E2.m, E2.e⟩, ⟨E3.neg, A3, n3, c3, wd E3.m, E3.e⟩, ⟨E4.neg, A4, n4, c4, wd E4.m, E4.e⟩] ∧ Below w'.heap.size w' w'' ∧ Below w7.heap.size w7 w'' := by
        intro w' hb
        refine (spdiv1 p q s t A A' B B' n c n' c' m k m' k' xs ys us vs e f i j P true _ _ _ g false E1 E2 E3 E4 w' (hA7.below hb) (hA7'.below hb) (hB7.below hb) (hB7'.below hb) (hT7.below hb) (hk7.later hb) _ _ _ (xa7.later hb) (xsa7.later hb) (xsb7.later hb) q1 q2 q3 q4).mono ?_
        rintro r w'' ⟨h, A1, n1, c1, A2, n2, c2, A3, n3, c3, A4, n4, c4, rfl, hd, hb2⟩
        exact ⟨h, A1, n1, c1, A2, n2, c2, A3, n3, c3, A4, n4, c4, rfl, hd, hb2, below_on hb hb2⟩
      have MN : ∀ h A1 n1 c1 A2 n2 c2 A3 n3 c3 A4 n4 c4 w', DVs w' h [⟨D1.neg, A1, n1, c1, wd D1.m, D1.e⟩, ⟨D2.neg, A2, n2, c2, wd D2.m, D2.e⟩, ⟨D3.neg, A3, n3, c3, wd D3.m, D3.e⟩, ⟨D4.neg, A4, n4, c4, wd D4.m, D4.e⟩] → Below w7.heap.size w7 w' → Calls Tryz.prog 46 #[.slice (some ⟨h, 0, none⟩) 4 4, .func (.func 47) #[] #[]] w' fun r w'' => ∃ A n c, r = .returned (.agg #[.bool (bestY false D1 D2 D3 D4).neg, .slice A n c, .int .i64 (bestY false D1 D2 D3 D4).e]) ∧ Arr w'' A n c (wd (bestY false D1 D2 D3 D4).m) ∧ Below w'.heap.size w' w'' ∧ Below w7.heap.size w7 w'' := by
        intro h A1 n1 c1 A2 n2 c2 A3 n3 c3 A4 n4 c4 w' hd hb
        refine (spmin_four w' hd).mono ?_
        rintro r w'' ⟨A, n, c, rfl, ha, hb2⟩
        exact ⟨A, n, c, rfl, ha, hb2, below_on hb hb2⟩
      have MX : ∀ h A1 n1 c1 A2 n2 c2 A3 n3 c3 A4 n4 c4 w', DVs w' h [⟨E1.neg, A1, n1, c1, wd E1.m, E1.e⟩, ⟨E2.neg, A2, n2, c2, wd E2.m, E2.e⟩, ⟨E3.neg, A3, n3, c3, wd E3.m, E3.e⟩, ⟨E4.neg, A4, n4, c4, wd E4.m, E4.e⟩] → Below w7.heap.size w7 w' → Calls Tryz.prog 48 #[.slice (some ⟨h, 0, none⟩) 4 4, .func (.func 47) #[] #[]] w' fun r w'' => ∃ A n c, r = .returned (.agg #[.bool (bestY true E1 E2 E3 E4).neg, .slice A n c, .int .i64 (bestY true E1 E2 E3 E4).e]) ∧ Arr w'' A n c (wd (bestY true E1 E2 E3 E4).m) ∧ Below w'.heap.size w' w'' ∧ Below w7.heap.size w7 w'' := by
        intro h A1 n1 c1 A2 n2 c2 A3 n3 c3 A4 n4 c4 w' hd hb
        refine (spmax_four w' hd).mono ?_
        rintro r w'' ⟨A, n, c, rfl, ha, hb2⟩
        exact ⟨A, n, c, rfl, ha, hb2, below_on hb hb2⟩
      generalize bestY false D1 D2 D3 D4 = L at *
      generalize bestY true E1 E2 E3 E4 = U at *
      obtain ⟨ln, lm, le⟩ := L
      obtain ⟨un, um, ue⟩ := U
      simp only at MN MX
      have GV : ∀ A n c A' n' c' w', Below w7.heap.size w7 w' → Calls Tryz.prog 34 #[.pointer (some ⟨g, 0, none⟩), .agg #[.bool ln, .slice A n c, .int .i64 le], .agg #[.bool un, .slice A' n' c', .int .i64 ue]] w' fun r w'' => r = .returned (.agg #[.bool ln, .slice A n c, .int .i64 le, .bool un, .slice A' n' c', .int .i64 ue]) ∧ Below w'.heap.size w' w'' ∧ Below w7.heap.size w7 w'' := by
        intro A n c A' n' c' w' hb
        refine (give_ok g P ln un A A' n c n' c' le ue w' (hk7.later hb)).mono ?_
        rintro r w'' ⟨rfl, hb2⟩
        exact ⟨rfl, hb2, below_on hb hb2⟩
      have KC : ∀ w', Below w7.heap.size w7 w' → w'.cell? ⟨w.heap.size, 0, none⟩ = some (.pointer (some ⟨g, 0, none⟩)) := fun w' hb => (xa7.later hb).cell 0
      have m7 := KC w7 (below_self _)
      have KC2 : ∀ w', Below w7.heap.size w7 w' → ∀ p A n c e q A' n' c' f W2, W2 = set6 w' (w.heap.size + 1 + 1 + 1) p A n c e q A' n' c' f → W2.cell? ⟨w.heap.size, 0, none⟩ = some (.pointer (some ⟨g, 0, none⟩)) := by
        rintro w' hb p A n c e q A' n' c' f _ rfl
        exact ((xa7.later hb).grown (set6_grown _ _ _ _ _ _ _ _ _ _ _ _) (show w.heap.size ≠ w.heap.size + 1 + 1 + 1 by omega)).cell 0
      have XR := fun w' (hb : Below w7.heap.size w7 w') => (xr7.later hb).cell6
      have FIN := fun w' A n c A' n' c' (h1 : Arr w' A n c (wd lm)) (h2 : Arr w' A' n' c' (wd um)) (hb : Below w7.heap.size w7 w') => retSp_set6 (w := w) (L := ⟨ln, lm, le⟩) (U := ⟨un, um, ue⟩) (P := P) h1 h2 (xr7.later hb) (hk7.later hb) (grown_on gw7 hb) (show g ≠ w.heap.size + 1 + 1 + 1 by omega) (by omega)
      have KC2 := Lib.hid KC2
      have XR := Lib.hid XR
      have FIN := Lib.hid FIN
      have OF := Lib.hid OF
      have OT := Lib.hid OT
      have MN := Lib.hid MN
      have MX := Lib.hid MX
      have GV := Lib.hid GV
      have KC := Lib.hid KC
      clear j0 j1 j2 j3 j4 j5 o1 o2 o3 o4 q1 q2 q3 q4 HO TK SG
      clear xa xsa xsb xr xa6 xsa6 xsb6 xr6 xa7 xsa7 xsb7 xr7 hA7 hA7' hB7 hB7' hT7 hk7 hk6 g6 gw gw7 hk5 h h' hB hB' hT hk hb7 b5
      go_wp2_with fail
      go_region_held3 (fun w' => w'.cell? ⟨w.heap.size, 0, none⟩ = some (.pointer (some ⟨g, 0, none⟩))) (first | (refine KC.out _ ?_; (repeat (first | with_reducible assumption | with_reducible exact below_self _ | with_reducible refine below_drewN ?_ _ | with_reducible apply Below.drew | with_reducible refine below_alloc ?_ _)); done) | (refine KC2.out _ ?_ _ _ _ _ _ _ _ _ _ _ _ rfl; (repeat (first | with_reducible assumption | with_reducible exact below_self _ | with_reducible refine below_drewN ?_ _ | with_reducible apply Below.drew | with_reducible refine below_alloc ?_ _)); done) | go_keep) (first | (go_at_call_of 63 (Value.bool false); refine (OF.out _ ?_).mono ?_; (repeat (first | with_reducible assumption | with_reducible exact below_self _ | with_reducible refine below_drewN ?_ _ | with_reducible apply Below.drew | with_reducible refine below_alloc ?_ _)); rintro r w8 ⟨h1, A1, n1, c1, A2, n2, c2, A3, n3, c3, A4, n4, c4, rfl, hd1, hc8, hb8⟩; (try have hd2 := DVs.later (DVs.later hd2 ((by repeat (first | with_reducible assumption | with_reducible exact below_self _ | with_reducible refine below_drewN ?_ _ | with_reducible apply Below.drew | with_reducible refine below_alloc ?_ _)))) hc8); (try have ha1 := Arr.below (Arr.below ha1 ((by repeat (first | with_reducible assumption | with_reducible exact below_self _ | with_reducible refine below_drewN ?_ _ | with_reducible apply Below.drew | with_reducible refine below_alloc ?_ _)))) hc8); (try have ha2 := Arr.below (Arr.below ha2 ((by repeat (first | with_reducible assumption | with_reducible exact below_self _ | with_reducible refine below_drewN ?_ _ | with_reducible apply Below.drew | with_reducible refine below_alloc ?_ _)))) hc8)) | (go_at_call_of 63 (Value.bool true); refine (OT.out _ ?_).mono ?_; (repeat (first | with_reducible assumption | with_reducible exact below_self _ | with_reducible refine below_drewN ?_ _ | with_reducible apply Below.drew | with_reducible refine below_alloc ?_ _)); rintro r w9 ⟨h2, B1, m1, k1, B2, m2, k2, B3, m3, k3, B4, m4, k4, rfl, hd2, hc9, hb9⟩; (try have hd1 := DVs.later (DVs.later hd1 ((by repeat (first | with_reducible assumption | with_reducible exact below_self _ | with_reducible refine below_drewN ?_ _ | with_reducible apply Below.drew | with_reducible refine below_alloc ?_ _)))) hc9); (try have ha1 := Arr.below (Arr.below ha1 ((by repeat (first | with_reducible assumption | with_reducible exact below_self _ | with_reducible refine below_drewN ?_ _ | with_reducible apply Below.drew | with_reducible refine below_alloc ?_ _)))) hc9); (try have ha2 := Arr.below (Arr.below ha2 ((by repeat (first | with_reducible assumption | with_reducible exact below_self _ | with_reducible refine below_drewN ?_ _ | with_reducible apply Below.drew | with_reducible refine below_alloc ?_ _)))) hc9)) | (go_at_call 46; refine (MN.out _ _ _ _ _ _ _ _ _ _ _ _ _ _ (DVs.later hd1 ((by repeat (first | with_reducible assumption | with_reducible exact below_self _ | with_reducible refine below_drewN ?_ _ | with_reducible apply Below.drew | with_reducible refine below_alloc ?_ _)))) ?_).mono ?_; (repeat (first | with_reducible assumption | with_reducible exact below_self _ | with_reducible refine below_drewN ?_ _ | with_reducible apply Below.drew | with_reducible refine below_alloc ?_ _)); rintro r w10 ⟨X1, x1, y1, rfl, ha1, hc10, hb10⟩; (try have hd2 := DVs.later (DVs.later hd2 ((by repeat (first | with_reducible assumption | with_reducible exact below_self _ | with_reducible refine below_drewN ?_ _ | with_reducible apply Below.drew | with_reducible refine below_alloc ?_ _)))) hc10); (try have ha2 := Arr.below (Arr.below ha2 ((by repeat (first | with_reducible assumption | with_reducible exact below_self _ | with_reducible refine below_drewN ?_ _ | with_reducible apply Below.drew | with_reducible refine below_alloc ?_ _)))) hc10)) | (go_at_call 48; refine (MX.out _ _ _ _ _ _ _ _ _ _ _ _ _ _ (DVs.later hd2 ((by repeat (first | with_reducible assumption | with_reducible exact below_self _ | with_reducible refine below_drewN ?_ _ | with_reducible apply Below.drew | with_reducible refine below_alloc ?_ _)))) ?_).mono ?_; (repeat (first | with_reducible assumption | with_reducible exact below_self _ | with_reducible refine below_drewN ?_ _ | with_reducible apply Below.drew | with_reducible refine below_alloc ?_ _)); rintro r w11 ⟨X2, x2, y2, rfl, ha2, hc11, hb11⟩; (try have hd1 := DVs.later (DVs.later hd1 ((by repeat (first | with_reducible assumption | with_reducible exact below_self _ | with_reducible refine below_drewN ?_ _ | with_reducible apply Below.drew | with_reducible refine below_alloc ?_ _)))) hc11); (try have ha1 := Arr.below (Arr.below ha1 ((by repeat (first | with_reducible assumption | with_reducible exact below_self _ | with_reducible refine below_drewN ?_ _ | with_reducible apply Below.drew | with_reducible refine below_alloc ?_ _)))) hc11)) | (go_at_call 34; refine (GV.out _ _ _ _ _ _ _ ?_).mono ?_; (repeat (first | with_reducible assumption | with_reducible exact below_self _ | with_reducible refine below_drewN ?_ _ | with_reducible apply Below.drew | with_reducible refine below_alloc ?_ _)); rintro r w12 ⟨rfl, hc12, hb12⟩; (try have ha1 := Arr.below (Arr.below ha1 ((by repeat (first | with_reducible assumption | with_reducible exact below_self _ | with_reducible refine below_drewN ?_ _ | with_reducible apply Below.drew | with_reducible refine below_alloc ?_ _)))) hc12); (try have ha2 := Arr.below (Arr.below ha2 ((by repeat (first | with_reducible assumption | with_reducible exact below_self _ | with_reducible refine below_drewN ?_ _ | with_reducible apply Below.drew | with_reducible refine below_alloc ?_ _)))) hc12); obtain ⟨u0, u1, u2, u3, u4, u5, u6, u7, u8, u9, u10, u11⟩ := XR.out _ hb12))
      all_goals
        go_wp2_with fail
        refine bodyPost_ret (v := .agg #[.bool ln, .slice X1 x1 y1, .int .i64 le, .bool un, .slice X2 x2 y2, .int .i64 ue]) ?_ rfl (FIN.out _ _ _ _ _ _ _ ha1 ha2 hb12)
        simp [results, Tryz.results27, go_sem, u0, u1, u2, u3, u4, u5]
  · rw [if_neg (fun hh => by simp at hh)]
    go_enter Tryz.func27, Tryz.ntmps27
    go_wp2_with fail
    refine TK.out.mono ?_
    rintro r w6 ⟨rfl, hk6, g6⟩
    have m6 := (xa.grown g6 (show w.heap.size ≠ g by omega)).cell 0
    have xr6 := xr.grown g6 (show w.heap.size + 1 + 1 + 1 ≠ g by omega)
    have gw := grown_trans (grown_of b5 (some g)) g6
    have FL := Lib.hid (spfail g P true w6 hk6)
    clear k0 k1 k2 k3 k4 k5 j0 j1 j2 j3 j4 j5 m0
    go_wp2_with fail
    refine FL.out.mono ?_
    rintro r w8 ⟨rfl, hk8, g8⟩
    have xr8 := xr6.grown g8 (show w.heap.size + 1 + 1 + 1 ≠ g by omega)
    have gw8 := grown_trans gw g8
    (go_wp2_with (refine wp_put6 rfl _ _ rfl rfl (w.heap.size + 1 + 1 + 1) false none 0 0 0 false none 0 0 0 xr8 rfl rfl (fun W1 y1 gW1 => ?_); have hk9 := (hk8).other gW1 (show g ≠ w.heap.size + 1 + 1 + 1 by omega); obtain ⟨u0, u1, u2, u3, u4, u5, -⟩ := y1.cell6); refine bodyPost_ret (v := .agg #[.bool false, .slice none 0 0, .int .i64 0, .bool false, .slice none 0 0, .int .i64 0]) ?_ rfl (retSp_none hk9 (grown_own gw8 gW1 (by omega))); simp [results, Tryz.results27, go_sem, u0, u1, u2, u3, u4, u5])
end Go.Proofs.YteffemhapnbaeaaGreatDoor
