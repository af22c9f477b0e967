/- The document's Root. -/
import Derived.Deep.RegionHeld3
import Derived.Test.YteffemhapnbaeaaDoorSnP
namespace Go.Proofs.YteffemhapnbaeaaDoor
open Go.RowKit Num
set_option linter.unusedSimpArgs false
set_option linter.unusedVariables false
set_option maxRecDepth 100000

theorem rgive_o (g : Nat) (P : Int) (s t k1 k2 : Bool) (m e m' f : Int) (A A' : Option Addr) (n c n' c' : Nat) (w : World) (hk : Wk w g P false 42) (ha : Arr w A n c (wd m)) (ha' : Arr w A' n' c' (wd m')) :
    Calls Tryd.prog 32 #[.pointer (some ⟨g, 0, none⟩), (.agg #[.bool s, .slice A n c, .int .i64 e]), .bool k1, (.agg #[.bool t, .slice A' n' c', .int .i64 f]), .bool k2] w fun r w' => ∃ b X u v Y k j, b = (!(k1 && k2)) ∧ r = .returned (.agg #[.bool ((pairO b ⟨s, m, e⟩ ⟨t, m', f⟩).getD (Dy.zero, Dy.zero)).1.neg, .slice X u v, .int .i64 ((pairO b ⟨s, m, e⟩ ⟨t, m', f⟩).getD (Dy.zero, Dy.zero)).1.e, .bool ((pairO b ⟨s, m, e⟩ ⟨t, m', f⟩).getD (Dy.zero, Dy.zero)).2.neg, .slice Y k j, .int .i64 ((pairO b ⟨s, m, e⟩ ⟨t, m', f⟩).getD (Dy.zero, Dy.zero)).2.e]) ∧
      Arr w' X u v (wd ((pairO b ⟨s, m, e⟩ ⟨t, m', f⟩).getD (Dy.zero, Dy.zero)).1.m) ∧ Arr w' Y k j (wd ((pairO b ⟨s, m, e⟩ ⟨t, m', f⟩).getD (Dy.zero, Dy.zero)).2.m) ∧ Wk w' g P b 42 ∧ w.grownBy w' (some g) := by
  cases hkk : (k1 && k2)
  · refine (rgive_no g P false s t k1 k2 A A' n c n' c' e f w hk hkk).mono ?_
    rintro r w' ⟨rfl, hk', hg⟩
    exact ⟨true, none, 0, 0, none, 0, 0, rfl, rfl, by show Arr w' none 0 0 (wd Dy.zero.m); rw [wd_zero_m]; exact Arr.nothing _, by show Arr w' none 0 0 (wd Dy.zero.m); rw [wd_zero_m]; exact Arr.nothing _, hk', hg⟩
  · simp only [Bool.and_eq_true] at hkk
    obtain ⟨rfl, rfl⟩ := hkk
    refine (rgive_ok g s t A A' n c n' c' e f w).mono ?_
    rintro r w' ⟨rfl, hb⟩
    exact ⟨false, A, n, c, A', n', c', rfl, rfl, ha.below hb, ha'.below hb, hk.later hb, grown_of hb _⟩
theorem retSp_put {w w4 w5 : World} {o : Option (Dy × Dy)} {A A' : Option Addr} {n c n' c' g k : Nat} {P : Int} {tw t : TypeId} (h1 : Arr w4 A n c (wd (o.getD (Dy.zero, Dy.zero)).1.m)) (h2 : Arr w4 A' n' c' (wd (o.getD (Dy.zero, Dy.zero)).2.m)) (hb : Box w4 k #[.bool false, .slice none 0 0, .int .i64 0, .bool false, .slice none 0 0, .int .i64 0] t)
    (hk : Wk w4 g P o.isNone tw) (hg : w.grownBy w4 (some g)) (hne : g ≠ k) (hkk : w.heap.size ≤ k) (g6 : w4.grownBy w5 (some k)) :
    RetSp o g P tw w (.returned (.agg #[.bool (o.getD (Dy.zero, Dy.zero)).1.neg, .slice A n c, .int .i64 (o.getD (Dy.zero, Dy.zero)).1.e, .bool (o.getD (Dy.zero, Dy.zero)).2.neg, .slice A' n' c', .int .i64 (o.getD (Dy.zero, Dy.zero)).2.e])) w5 := by
  have no := no6 (a := .bool false) (b := .slice none 0 0) (c := .int .i64 0) (d := .bool false) (e := .slice none 0 0) (f := .int .i64 0) (by simp) (by simp) (by simp) (by simp) (by simp) (by simp)
  exact ⟨A, n, c, A', n', c', rfl, h1.grown hb no g6, h2.grown hb no g6, hk.other g6 hne, grown_own hg g6 hkk⟩
/-- What a region that asks for a number and keeps it has made, in either order. -/
theorem made_after {w w' : World} {s : Bool} {A : Option Addr} {n c : Nat} {m f : Int} (ha : Arr w' A n c (wd m)) (hb : Below w.heap.size w w') :
    ∃ W k, W = w'.alloc (.cells #[.bool s, .slice A n c, .int .i64 f] 26) ∧ k = w'.heap.size ∧ Box W k #[.bool s, .slice A n c, .int .i64 f] 26 ∧ Arr W A n c (wd m) ∧ Below w.heap.size w W ∧ w.heap.size ≤ k :=
  ⟨_, _, rfl, rfl, box_new _ _ _, ha.below (below_alloc (below_self _) _), below_alloc hb _, hb.size⟩
theorem made_before {w w' : World} {s : Bool} {A : Option Addr} {n c : Nat} {m f : Int} (ha : Arr w' A n c (wd m)) (hb : Below w.heap.size w w') (hx : Box w' w.heap.size #[.bool false, .slice none 0 0, .int .i64 0] 26) :
    ∃ W k, W = (((w'.setCell ⟨w.heap.size, 0, none⟩ (.bool s)).setCell ⟨w.heap.size, 1, none⟩ (.slice A n c)).setCell ⟨w.heap.size, 2, none⟩ (.int .i64 f)) ∧ k = w.heap.size ∧ Box W k #[.bool s, .slice A n c, .int .i64 f] 26 ∧ Arr W A n c (wd m) ∧ Below w.heap.size w W ∧ w.heap.size ≤ k :=
  ⟨_, _, rfl, rfl, ((hx.set 0 _).set 1 _).set 2 _, ha.set3 hx _ _ _ (by simp) (by simp), below_set (below_set (below_set hb _ _ (Nat.le_refl _) _) _ _ (Nat.le_refl _) _) _ _ (Nat.le_refl _) _, Nat.le_refl _⟩
theorem new_kept {w w' : World} {cs : Array Value} {t : TypeId} (hc : Below (w.alloc (.cells cs t)).drew.heap.size (w.alloc (.cells cs t)).drew w') : Box w' w.heap.size cs t :=
  (box_new w cs t).later (below_on (Below.drew (below_self _)) hc)
end Go.Proofs.YteffemhapnbaeaaDoor
