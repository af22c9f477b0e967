/- Same; a word's number. -/
import Derived.Test.YtbfnjjnnlbchgaaDoorBtA
import Derived.Test.YtbfnjjnnlbchgaaDoorSame
namespace Go.Proofs.YtbfnjjnnlbchgaaDoor
open Go.RowKit Num
set_option maxRecDepth 100000

def sameB (p q : Bool) (xs ys : List Int) (e f : Int) : Bool := p == q && (e == f && decide (xs = ys))
theorem same02 (p q : Bool) (A A' : Option Addr) (n c n' c' : Nat) (xs ys : List Int) (e f : Int) (w : World) (h : Arr w A n c xs) (h' : Arr w A' n' c' ys) :
    Calls Tryd.prog 92 #[.agg #[.bool p, .slice A n c, .int .i64 e], .agg #[.bool q, .slice A' n' c', .int .i64 f]] w fun r w' => r = .returned (.bool (sameB p q xs ys e f)) ∧ Below w.heap.size w w' := by
  have S : Hid (sameB p q xs ys e f = (p == q && (e == f && decide (xs = ys)))) := rfl
  generalize sameB p q xs ys e f = s at *
  generalize hx : decide (xs = ys) = d at *
  have HX := Lib.hid hx
  clear hx
  go_enter Tryd.func92, Tryd.ntmps92
  go_wp2_with fail
  · have hb : Below w.heap.size w ((w.alloc (.cells #[.bool q, .slice A n c, .int .i64 f] 24)).alloc (.cells #[.bool q, .slice A' n' c', .int .i64 f] 24)) := (by repeat (first | with_reducible assumption | exact below_self _ | refine below_set ?_ _ _ (by first | exact Nat.le_refl _ | omega | (simp; done) | (simp; omega)) _ | refine below_alloc ?_ _ | apply Below.drew | apply below_drewN))
    have z1 : p = q := by assumption
    have z2 : e = f := by assumption
    refine (same01 A A' n c n' c' xs ys _ (h.below hb) (h'.below hb)).mono ?_
    rintro r w' ⟨rfl, hs⟩
    have bw := hb.trans (hs.below _)
    have hs' : s = decide (xs = ys) := by rw [S.out, z1, z2, ← HX.out]; simp
    have HS := Lib.hid hs'
    clear hs'
    rw [HX.out]
    go_wp2_with fail
    go_ret
    exact ⟨by rw [HS.out, HX.out]; rfl, bw⟩
  · have z2 : ¬ e = f := by assumption
    have hs' : s = false := by rw [S.out]; simp [z2]
    go_ret
    exact ⟨by rw [hs']; first | rfl | simp [z2], (by repeat (first | with_reducible assumption | exact below_self _ | refine below_set ?_ _ _ (by first | exact Nat.le_refl _ | omega | (simp; done) | (simp; omega)) _ | refine below_alloc ?_ _ | apply Below.drew | apply below_drewN))⟩
  · have z2 : ¬ p = q := by assumption
    have hs' : s = false := by rw [S.out]; simp [z2]
    go_ret
    exact ⟨by rw [hs']; first | rfl | simp [z2], (by repeat (first | with_reducible assumption | exact below_self _ | refine below_set ?_ _ _ (by first | exact Nat.le_refl _ | omega | (simp; done) | (simp; omega)) _ | refine below_alloc ?_ _ | apply Below.drew | apply below_drewN))⟩
/-- What a word stands for. -/
def numD (b : Int) : Option Dy :=
  if expo b = 2047 then none
  else if expo b = 0 then mkD (negB b) (frac b) (-1074) else mkD (negB b) (frac b + 4503599627370496) (expo b - 1075)
theorem or_unit {f : Int} (h0 : 0 ≤ f) (h1 : f < 4503599627370496) : bits .or .u64 f 4503599627370496 = f + 4503599627370496 := by
  have h := or_add (a := f) (b := 1) (s := 52) (by decide) h0 h1 (by decide) (by decide)
  have e : (1 : Int) * pw 52 = 4503599627370496 := by decide
  rw [e] at h; exact h
theorem retD_set {w w4 : World} {o : Option Dy} {A : Option Addr} {n c g : Nat} {t : TypeId} {p : Bool} {A' : Option Addr} {n' c' : Nat} {e : Int} (h : Arr w4 A n c (wd (optD o).m)) (hb : Box w4 g #[.bool p, .slice A' n' c', .int .i64 e] t) (hw : Below w.heap.size w w4) (hg : w.heap.size ≤ g) :
    RetD o w (.returned (.tuple #[.agg #[.bool (optD o).neg, .slice A n c, .int .i64 (optD o).e], .bool o.isSome])) (((w4.setCell ⟨g, 0, none⟩ (.bool (optD o).neg)).setCell ⟨g, 1, none⟩ (.slice A n c)).setCell ⟨g, 2, none⟩ (.int .i64 (optD o).e)) :=
  ⟨A, n, c, rfl, h.set3 hb _ _ _ (by simp) (by simp), below_set (below_set (below_set hw _ _ hg _) _ _ hg _) _ _ hg _⟩
theorem number (b : Int) (w : World) (h0 : 0 ≤ b) (h1 : b < 18446744073709551616) (hT : Tz w) :
    Calls Tryd.prog 19 #[.int .u64 b] w (RetD (numD b) w) := by
  have N : Hid (numD b = if expo b = 2047 then none else if expo b = 0 then mkD (negB b) (frac b) (-1074) else mkD (negB b) (frac b + 4503599627370496) (expo b - 1075)) := rfl
  have b0 : Below w.heap.size w (w.alloc (.cells #[.bool false, .slice none 0 0, .int .i64 0] 24)) := below_alloc (below_self w) _
  have S := fun w => bsplit b w h0 h1
  have G := fun w => bneg b w h0 h1
  have r1 := expo_range b
  have r2 := frac_range b
  generalize numD b = o at *
  generalize expo b = x at *
  generalize frac b = f at *
  generalize negB b = nb at *
  have HS := Lib.hid S
  have HG := Lib.hid G
  clear S G
  have n := N.out
  clear N
  by_cases c1 : x = 2047
  · rw [if_pos c1] at n
    subst n; subst c1
    go_enter Tryd.func19, Tryd.ntmps19
    go_wp2_with (go_at_call 84; refine (HS.out _).mono ?_; rintro r w' ⟨rfl, rfl⟩)
    exact bodyPost_ret (v := .tuple #[.agg #[.bool false, .slice none 0 0, .int .i64 0], .bool false]) (by simp [results, Tryd.results19, go_sem]) rfl ⟨none, 0, 0, rfl, arr_no _, (by repeat (first | with_reducible assumption | exact below_self _ | refine below_set ?_ _ _ (by first | exact Nat.le_refl _ | omega | (simp; done) | (simp; omega)) _ | refine below_alloc ?_ _ | apply Below.drew | apply below_drewN))⟩
  · rw [if_neg c1] at n
    have d1 : (x == 2047) = false := by simp [c1]
    by_cases c2 : x = 0
    · rw [if_pos c2] at n
      subst c2
      have HN := Lib.hid n
      clear n
      have v0 := val_one f
      go_enter Tryd.func19, Tryd.ntmps19
      go_wp2_with (first | (go_at_call 84; refine (HS.out _).mono ?_; rintro r w' ⟨rfl, rfl⟩) | (go_at_call 85; refine (HG.out _).mono ?_; rintro r w' ⟨rfl, rfl⟩))
      have b1 := below_alloc b0 (.cells #[.int .u64 f] 27)
      refine (make nb _ 1 1 [f] (-1074) _ (arr_one (by simp) f r2.1 (by omega)) (by omega) (by omega) (by omega) (hT.below b1)).mono ?_
      rw [v0, ← HN.out]
      rintro r w4 ⟨A, n, c, rfl, hA, hb⟩
      have b4 := below_on b1 hb
      have bx := ((box_new w #[.bool false, .slice none 0 0, .int .i64 0] 24).below (below_new (Nat.le_refl _) (.cells #[.int .u64 f] 27)) (by simp)).later hb
      obtain ⟨k0, k1, k2, f0, f1, f2⟩ := bx.cell3
      go_wp2_with fail
      exact bodyPost_ret (v := .tuple #[.agg #[.bool (optD o).neg, .slice A n c, .int .i64 (optD o).e], .bool o.isSome]) (by simp [results, Tryd.results19, go_sem, k0, k1, k2]) rfl (retD_set hA bx b4 (Nat.le_refl _))
    · rw [if_neg c2] at n
      have d2 : decide (0 < x) = true := by simp; omega
      have HN := Lib.hid n
      have ho := Lib.hid (or_unit r2.1 r2.2)
      clear n
      go_enter Tryd.func19, Tryd.ntmps19
      go_wp2_with (first | (go_at_call 84; refine (HS.out _).mono ?_; rintro r w' ⟨rfl, rfl⟩) | (go_at_call 85; refine (HG.out _).mono ?_; rintro r w' ⟨rfl, rfl⟩))
      rw [ho.out]
      have b1 := below_alloc b0 (.cells #[.int .u64 (f + 4503599627370496)] 27)
      rw [show x - 1 - 1074 = x - 1075 from by omega]
      refine (make nb _ 1 1 [f + 4503599627370496] (x - 1075) _ (arr_one (by simp) _ (by omega) (by omega)) (by omega) (by omega) (by omega) (hT.below b1)).mono ?_
      rw [val_one, ← HN.out]
      rintro r w4 ⟨A, n, c, rfl, hA, hb⟩
      have b4 := below_on b1 hb
      have bx := ((box_new w #[.bool false, .slice none 0 0, .int .i64 0] 24).below (below_new (Nat.le_refl _) (.cells #[.int .u64 (f + 4503599627370496)] 27)) (by simp)).later hb
      obtain ⟨k0, k1, k2, f0, f1, f2⟩ := bx.cell3
      go_wp2_with fail
      exact bodyPost_ret (v := .tuple #[.agg #[.bool (optD o).neg, .slice A n c, .int .i64 (optD o).e], .bool o.isSome]) (by simp [results, Tryd.results19, go_sem, k0, k1, k2]) rfl (retD_set hA bx b4 (Nat.le_refl _))
end Go.Proofs.YtbfnjjnnlbchgaaDoor
