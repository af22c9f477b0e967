/- The law SpecialPairs: what the conjugate's words are (plain law). -/
import Derived.Test.YtbfnjjnnlbchgaaSpM
namespace Go.Proofs.Ytbfnjjnnlbchgaa
open Go.RowKit Num
set_option linter.unusedSimpArgs false
set_option linter.unusedVariables false
set_option maxRecDepth 100000

/-- A word, its sign turned. -/
def fl (y : Int) : Int := (y + 9223372036854775808) % 18446744073709551616
theorem fl_wd (y : Int) : Wd (fl y) := by unfold fl Wd; omega
theorem fl_kind {y : Int} (h : Wd y) : kindI (fl y) = kindI y := flip_kind h
theorem fl_inf {y : Int} (h : Wd y) : isInf (fl y) = isInf y := by unfold isInf; rw [fl_kind h]
theorem fl_not {y : Int} (h : Wd y) : isNot (fl y) = isNot y := by unfold isNot; rw [fl_kind h]
theorem fl_zero {y : Int} (h : Wd y) : isZero (fl y) = isZero y := by unfold isZero; rw [fl_kind h]
theorem fl_one {y : Int} (h : Wd y) : isOne (fl y) = isOne y := by
  unfold isOne fl
  rw [show (y + 9223372036854775808) % 18446744073709551616 % 9223372036854775808 = y % 9223372036854775808 by unfold Wd at h; omega]
theorem fl_fl {y : Int} (h : Wd y) : fl (fl y) = y := by unfold fl; unfold Wd at h; omega
theorem fl_sgn {s : Int} (h : Sgn s) : Sgn (fl s) := by rcases h with rfl | rfl; exact .inr (by decide); exact .inl (by decide)
theorem sgnw_fl {y : Int} (h : Wd y) : sgnw (fl y) = fl (sgnw y) := by
  unfold sgnw negB
  unfold Wd at h
  by_cases hh : 9223372036854775808 ≤ y
  · have : ¬ 9223372036854775808 ≤ fl y := by unfold fl; omega
    rw [decide_eq_true hh, decide_eq_false this]; decide
  · have : 9223372036854775808 ≤ fl y := by unfold fl; omega
    rw [decide_eq_false hh, decide_eq_true this]; decide
theorem not_nan {y : Int} (h : isNot y = false) : y ≠ 9221120237041090560 := by
  rintro rfl
  exact absurd h (by decide)
/-- A word that turns with the sign. -/
def Turn (a b : Int) : Prop := (a = 9221120237041090560 ∧ b = 9221120237041090560) ∨ (a ≠ 9221120237041090560 ∧ b = fl a)
theorem turn_sgn {s : Int} (h : Sgn s) : Turn s (fl s) := .inr ⟨not_nan (not_sgn h), rfl⟩
theorem turn_inf {s : Int} (h : Sgn s) : Turn (9218868437227405312 + s) (9218868437227405312 + fl s) := by rcases h with rfl | rfl <;> exact .inr ⟨by decide, by decide⟩
theorem turn_pi {s : Int} (h : Sgn s) : Turn (4614256656552045848 + s) (4614256656552045848 + fl s) := by rcases h with rfl | rfl <;> exact .inr ⟨by decide, by decide⟩
theorem turn_clean {y : Int} (h : Wd y) : Turn (cleanW y) (cleanW (fl y)) := by
  unfold cleanW
  rw [fl_not h]
  cases hn : isNot y
  · exact .inr ⟨not_nan hn, rfl⟩
  · exact .inl ⟨rfl, rfl⟩
theorem turn_ang {x y a s : Int} (h : Wd y) (hs : Sgn s) : Turn (angI x y a s).1 (angI x (fl y) a (fl s)).1 ∧ (angI x (fl y) a (fl s)).2 = (angI x y a s).2 := by
  unfold angI
  rw [fl_inf h]
  rcases hs with rfl | rfl
  all_goals
    split
    · split
      · split <;> exact ⟨.inr ⟨by decide, by decide⟩, rfl⟩
      · exact ⟨.inr ⟨by decide, by decide⟩, rfl⟩
    · split <;> exact ⟨.inr ⟨by decide, by decide⟩, rfl⟩
/-- Two answers whose words are conjugates. -/
def Pair (tag : Int) (s t : Int × Int × Int × Bool) : Prop :=
  t.2.2.2 = s.2.2.2 ∧ (s.2.2.2 = true → t.2.2.1 = s.2.2.1 ∧ ((tag = 1 ∧ t.2.1 = s.2.1 ∧ Turn s.1 t.1) ∨ (tag ≠ 1 ∧ t.1 = s.1 ∧ Turn s.2.1 t.2.1)))
theorem pair_told (tag x y a s : Int) (hx : Wd x) (hy : Wd y) (hs : Sgn s) (h0 : tag ≠ 0) : Pair tag (toldI tag x y a s) (toldI tag x (fl y) a (fl s)) := by
  have A := turn_ang (x := x) (a := a) hy hs
  unfold toldI
  rw [fl_inf hy, fl_not hy, fl_zero hy]
  by_cases h2 : tag = 2
  · rw [if_pos h2, if_pos h2]
    refine ⟨rfl, fun _ => ⟨rfl, .inr ⟨by omega, rfl, ?_⟩⟩⟩
    show Turn (if isNot y then _ else _) (if isNot y then _ else _)
    unfold cleanW
    rw [fl_not hy]
    cases hn : isNot y
    · refine .inr ⟨?_, ?_⟩
      · refine not_nan ?_
        show isNot (fl y) = false
        rw [fl_not hy]; exact hn
      · show (fl y + 9223372036854775808) % 18446744073709551616 = fl ((y + 9223372036854775808) % 18446744073709551616)
        rfl
    · exact .inl ⟨rfl, rfl⟩
  rw [if_neg h2, if_neg h2]
  by_cases h3 : tag = 3
  · rw [if_pos h3, if_pos h3]
    split
    · exact ⟨rfl, fun _ => ⟨rfl, .inr ⟨by omega, rfl, turn_sgn hs⟩⟩⟩
    · exact ⟨rfl, fun _ => ⟨rfl, .inr ⟨by omega, rfl, turn_clean hy⟩⟩⟩
  rw [if_neg h3, if_neg h3, if_neg h0, if_neg h0]
  by_cases h1 : tag = 1
  · rw [if_pos h1, if_pos h1]
    exact ⟨rfl, fun _ => ⟨A.2, .inl ⟨h1, rfl, A.1⟩⟩⟩
  rw [if_neg h1, if_neg h1]
  by_cases h6 : tag = 6
  · rw [if_pos h6, if_pos h6]
    split
    · exact ⟨rfl, fun _ => ⟨rfl, .inr ⟨h1, rfl, turn_inf hs⟩⟩⟩
    · split
      · exact ⟨rfl, fun _ => ⟨rfl, .inr ⟨h1, rfl, turn_sgn hs⟩⟩⟩
      · exact ⟨rfl, fun _ => ⟨rfl, .inr ⟨h1, rfl, turn_inf hs⟩⟩⟩
  rw [if_neg h6, if_neg h6]
  by_cases h7 : tag = 7
  · rw [if_pos h7, if_pos h7]
    split <;> exact ⟨rfl, fun _ => ⟨rfl, .inr ⟨h1, rfl, turn_sgn hs⟩⟩⟩
  rw [if_neg h7, if_neg h7]
  by_cases h8 : tag = 8
  · rw [if_pos h8, if_pos h8]
    exact ⟨rfl, fun _ => ⟨A.2, .inr ⟨h1, rfl, A.1⟩⟩⟩
  rw [if_neg h8, if_neg h8]
  exact ⟨rfl, fun h => by cases h⟩
theorem pair_sing (tag x y a s u : Int) (hy : Wd y) (hs : Sgn s) (h : tag = 8 ∨ tag = 17 ∨ tag = 20) : Pair tag (singI tag x y a s u) (singI tag x (fl y) a (fl s) u) := by
  unfold singI
  have h1 : tag ≠ 1 := by omega
  by_cases h8 : tag = 8
  · rw [if_pos h8, if_pos h8]
    split
    · exact ⟨rfl, fun _ => ⟨rfl, .inr ⟨h1, rfl, turn_pi hs⟩⟩⟩
    · exact ⟨rfl, fun _ => ⟨rfl, .inr ⟨h1, rfl, turn_sgn hs⟩⟩⟩
  rw [if_neg h8, if_neg h8]
  by_cases h17 : tag = 17
  · rw [if_pos h17, if_pos h17]
    exact ⟨rfl, fun _ => ⟨rfl, .inr ⟨h1, rfl, turn_inf hs⟩⟩⟩
  rw [if_neg h17, if_neg h17]
  have h20 : tag = 20 := by omega
  rw [if_pos h20, if_pos h20]
  exact ⟨rfl, fun _ => ⟨rfl, .inr ⟨h1, rfl, turn_sgn hs⟩⟩⟩
theorem pair_nan (tag : Int) (f : Int) : Pair tag (9221120237041090560, 9221120237041090560, f, true) (9221120237041090560, 9221120237041090560, f, true) := by
  refine ⟨rfl, fun _ => ⟨rfl, ?_⟩⟩
  by_cases h : tag = 1
  · exact .inl ⟨h, rfl, .inl ⟨rfl, rfl⟩⟩
  · exact .inr ⟨h, rfl, .inl ⟨rfl, rfl⟩⟩
theorem pair_fin (tag : Int) (n : Bool) {s t : Int × Int × Int × Bool} (h : Pair tag s t) : Pair tag (finI s n) (finI t n) := by
  unfold finI
  rw [h.1]
  split
  · exact h
  · exact pair_nan _ _
/-- A pair, and no words where there is nothing. -/
def PairS (tag : Int) (s t : Int × Int × Int × Bool) : Prop := (s = (0, 0, 0, false) ∧ t = (0, 0, 0, false)) ∨ (s.2.2.2 = true ∧ Pair tag s t)
theorem fin_ok (s : Int × Int × Int × Bool) (n : Bool) : (finI s n).2.2.2 = true := by
  unfold finI
  split
  · assumption
  · rfl
theorem pair_spec (tag x y u v : Int) (hx : Wd x) (hy : Wd y) (h0 : tag ≠ 0) (h4 : tag ≠ 4) (h5 : tag ≠ 5) : PairS tag (specI tag x y u v) (specI tag x (fl y) u v) := by
  have hm : many tag = 2 := by unfold many; rw [if_neg (by omega)]
  have hK : anyK x (fl y) u v 2 = anyK x y u v 2 := by
    rw [show (2 : Nat) = 0 + 1 + 1 from rfl, anyK_succ, anyK_succ, anyK_succ, anyK_succ]
    rw [show zat x (fl y) u v 0 = x from rfl, show zat x (fl y) u v (0 + 1) = fl y from rfl, show zat x y u v 0 = x from rfl, show zat x y u v (0 + 1) = y from rfl, fl_kind hy]
    rfl
  have hN : allN x (fl y) u v 2 = allN x y u v 2 := by
    rw [show (2 : Nat) = 0 + 1 + 1 from rfl, allN_succ, allN_succ, allN_succ, allN_succ]
    rw [show zat x (fl y) u v 0 = x from rfl, show zat x (fl y) u v (0 + 1) = fl y from rfl, show zat x y u v 0 = x from rfl, show zat x y u v (0 + 1) = y from rfl, fl_not hy]
    rfl
  have hnu : numsI tag x (fl y) u v = numsI tag x y u v := by
    unfold numsI
    rw [hm, show List.range 2 = [0, 1] from rfl]
    simp only [List.all_cons, List.all_nil, Bool.and_true]
    rw [show zat x (fl y) u v 0 = x from rfl, show zat x (fl y) u v 1 = fl y from rfl, show zat x y u v 0 = x from rfl, show zat x y u v 1 = y from rfl, fl_kind hy]
  have hZ : singZ tag x (fl y) u v = singZ tag x y u v := by
    unfold singZ
    rw [hnu, if_neg h5, if_neg h5, fl_zero hy, fl_one hy]
  have hs := sgnw_sgn y
  unfold specI
  rw [hm, hK, hN, hZ, sgnw_fl hy]
  split
  · exact .inl ⟨rfl, rfl⟩
  split
  · exact .inr ⟨fin_ok _ _, pair_fin tag _ (pair_told tag x y _ _ hx hy hs h0)⟩
  split
  · rename_i hz
    refine .inr ⟨fin_ok _ _, pair_fin tag _ (pair_sing tag x y _ _ u hy hs ?_)⟩
    unfold singZ at hz
    rw [if_neg h5] at hz
    by_cases h8 : tag = 8
    · exact .inl h8
    · by_cases h17 : tag = 17
      · exact .inr (.inl h17)
      · by_cases h20 : tag = 20
        · exact .inr (.inr h20)
        · rw [if_neg h8, if_neg h17, if_neg h20, Bool.and_false] at hz
          cases hz
  · exact .inl ⟨rfl, rfl⟩
end Go.Proofs.Ytbfnjjnnlbchgaa
