/- A work's steps of two ends each: must, give for whatever comes; Root. -/
import Derived.Deep.RegionHeld3
import Derived.Test.YteffemhapnbaeaaDoorSnN
import Derived.Test.YteffemhapnbaeaaDoorNB
namespace Go.Proofs.YteffemhapnbaeaaDoor
open Go.RowKit Num
variable {tw : TypeId}
set_option linter.unusedSimpArgs false
set_option linter.unusedVariables false
set_option maxRecDepth 100000

def pairO (b : Bool) (D1 D2 : Dy) : Option (Dy × Dy) := if b then none else some (D1, D2)
theorem must_o (g : Nat) (P : Int) (bad ok s : Bool) (m e : Int) (A : Option Addr) (n c : Nat) (w : World) (hk : Wk w g P bad tw) (ha : Arr w A n c (wd m)) (hz : ok = false → s = false ∧ m = 0 ∧ e = 0) :
    Calls Tryd.prog 28 #[.pointer (some ⟨g, 0, none⟩), .agg #[.bool s, .slice A n c, .int .i64 e], .bool ok] w fun r w' => ∃ B k j, r = .returned (.agg #[.bool s, .slice B k j, .int .i64 e]) ∧ Arr w' B k j (wd m) ∧ Wk w' g P (bad || !ok) tw ∧ w.grownBy w' (some g) := by
  cases ok
  · obtain ⟨rfl, rfl, rfl⟩ := hz rfl
    refine (must_no g P bad _ false A n c 0 w hk).mono ?_
    rintro r w' ⟨rfl, hk', hg⟩
    exact ⟨none, 0, 0, rfl, by rw [wd_zero (Int.le_refl _)]; exact Arr.nothing _, by simpa using hk', hg⟩
  · refine (must_ok g s A n c e w).mono ?_
    rintro r w' ⟨rfl, hb⟩
    exact ⟨A, n, c, rfl, ha.below hb, by simpa using hk.later hb, grown_of hb _⟩
theorem give_o (g : Nat) (P : Int) (b : Bool) (s t : Bool) (m e m' f : Int) (A A' : Option Addr) (n c n' c' : Nat) (w : World) (hk : Wk w g P b tw) (ha : Arr w A n c (wd m)) (ha' : Arr w A' n' c' (wd m')) :
    Calls Tryd.prog 27 #[.pointer (some ⟨g, 0, none⟩), .agg #[.bool s, .slice A n c, .int .i64 e], .agg #[.bool t, .slice A' n' c', .int .i64 f]] w fun r w' => ∃ X u v Y k j, r = .returned (.agg #[.bool ((pairO b ⟨s, m, e⟩ ⟨t, m', f⟩).getD (Dy.zero, Dy.zero)).1.neg, .slice X u v, .int .i64 ((pairO b ⟨s, m, e⟩ ⟨t, m', f⟩).getD (Dy.zero, Dy.zero)).1.e, .bool ((pairO b ⟨s, m, e⟩ ⟨t, m', f⟩).getD (Dy.zero, Dy.zero)).2.neg, .slice Y k j, .int .i64 ((pairO b ⟨s, m, e⟩ ⟨t, m', f⟩).getD (Dy.zero, Dy.zero)).2.e]) ∧
      Arr w' X u v (wd ((pairO b ⟨s, m, e⟩ ⟨t, m', f⟩).getD (Dy.zero, Dy.zero)).1.m) ∧ Arr w' Y k j (wd ((pairO b ⟨s, m, e⟩ ⟨t, m', f⟩).getD (Dy.zero, Dy.zero)).2.m) ∧ Below w.heap.size w w' := by
  cases b
  · refine (give_ok g P s t A A' n c n' c' e f w hk).mono ?_
    rintro r w' ⟨rfl, hb⟩
    exact ⟨A, n, c, A', n', c', rfl, ha.below hb, ha'.below hb, hb⟩
  · refine (give_no g P s t A A' n c n' c' e f w hk).mono ?_
    rintro r w' ⟨rfl, hb⟩
    exact ⟨none, 0, 0, none, 0, 0, rfl, by show Arr w' none 0 0 (wd Dy.zero.m); rw [wd_zero_m]; exact Arr.nothing _, by show Arr w' none 0 0 (wd Dy.zero.m); rw [wd_zero_m]; exact Arr.nothing _, hb⟩
theorem retSp_fin {w w4 : World} {o : Option (Dy × Dy)} {A A' : Option Addr} {n c n' c' g k : Nat} {P : Int} {tw t : TypeId} (h1 : Arr w4 A n c (wd (o.getD (Dy.zero, Dy.zero)).1.m)) (h2 : Arr w4 A' n' c' (wd (o.getD (Dy.zero, Dy.zero)).2.m)) (hb : Box w4 k #[.bool false, .slice none 0 0, .int .i64 0, .bool false, .slice none 0 0, .int .i64 0] t)
    (hk : Wk w4 g P o.isNone tw) (hg : w.grownBy w4 (some g)) (hne : g ≠ k) (hkk : w.heap.size ≤ k) :
    RetSp o g P tw w (.returned (.agg #[.bool (o.getD (Dy.zero, Dy.zero)).1.neg, .slice A n c, .int .i64 (o.getD (Dy.zero, Dy.zero)).1.e, .bool (o.getD (Dy.zero, Dy.zero)).2.neg, .slice A' n' c', .int .i64 (o.getD (Dy.zero, Dy.zero)).2.e])) (set6 w4 k (o.getD (Dy.zero, Dy.zero)).1.neg A n c (o.getD (Dy.zero, Dy.zero)).1.e (o.getD (Dy.zero, Dy.zero)).2.neg A' n' c' (o.getD (Dy.zero, Dy.zero)).2.e) := by
  have g6 := set6_grown w4 k (o.getD (Dy.zero, Dy.zero)).1.neg A n c (o.getD (Dy.zero, Dy.zero)).1.e (o.getD (Dy.zero, Dy.zero)).2.neg A' n' c' (o.getD (Dy.zero, Dy.zero)).2.e
  have no := no6 (a := .bool false) (b := .slice none 0 0) (c := .int .i64 0) (d := .bool false) (e := .slice none 0 0) (f := .int .i64 0) (by simp) (by simp) (by simp) (by simp) (by simp) (by simp)
  exact ⟨A, n, c, A', n', c', rfl, h1.grown hb no g6, h2.grown hb no g6, hk.other g6 hne, grown_own hg g6 hkk⟩
theorem pair_none (b : Bool) (D1 D2 : Dy) : (pairO b D1 D2).isNone = b := by cases b <;> rfl
theorem optD_none {o : Option Dy} : o.isSome = false → (optD o).neg = false ∧ (optD o).m = 0 ∧ (optD o).e = 0 := by
  cases o with
  | none => intro _; exact ⟨rfl, rfl, rfl⟩
  | some d => intro h; cases h
def twoO (bad : Bool) (o1 o2 : Option Dy) : Option (Dy × Dy) := pairO (bad || !(o1.isSome && o2.isSome)) (optD o1) (optD o2)
end Go.Proofs.YteffemhapnbaeaaDoor
