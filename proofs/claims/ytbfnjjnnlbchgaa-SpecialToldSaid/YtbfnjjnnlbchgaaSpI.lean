/- The document's Special, by its table. -/
import Derived.Test.YtbfnjjnnlbchgaaSpH
namespace Go.Proofs.Ytbfnjjnnlbchgaa
open Go.RowKit Num
set_option linter.unusedSimpArgs false
set_option linter.unusedVariables false
set_option maxRecDepth 100000

def nanT (none : Bool) : Int × Int × Int × Bool := (9221120237041090560, 9221120237041090560, (if none then 8 else 0), true)
/-- The document's table, as it is written: 'odd', 'none', 'single', and the words. -/
def tabI (tag x y u : Int) (odd none single : Bool) : Int × Int × Int × Bool :=
  if !odd && !single then (0, 0, 0, false)
  else if tag = 2 then (cleanW x, (if isNot y then cleanW y else (y + 9223372036854775808) % 18446744073709551616), 0, true)
  else if tag = 3 then (if isInf x || isInf y then (9218868437227405312, sgnw y, 0, true) else (cleanW x, cleanW y, 0, true))
  else if tag = 0 then (if isInf x || isInf y then (9218868437227405312, 0, 0, true) else nanT none)
  else if tag = 1 then (if none then ((angI x y (sgnw x) (sgnw y)).1, 0, (angI x y (sgnw x) (sgnw y)).2, true) else nanT none)
  else if tag = 6 then (if isInf y then (9218868437227405312, 9218868437227405312 + sgnw y, 0, true) else if none then (if negB x then (0, 9218868437227405312 + sgnw y, 0, true) else (9218868437227405312, sgnw y, 0, true)) else nanT none)
  else if tag = 7 then (if isInf x && isZero y then (if negB x then (0, sgnw y, 0, true) else (9218868437227405312, sgnw y, 0, true)) else nanT none)
  else if tag = 8 then (if (isInf x || isInf y) && none then (9218868437227405312, (angI x y (sgnw x) (sgnw y)).1, (angI x y (sgnw x) (sgnw y)).2, true) else if single then (if negB x then (18442240474082181120, 4614256656552045848 + sgnw y, 17, true) else (18442240474082181120, sgnw y, 16, true)) else nanT none)
  else if tag = 17 then (if single then (sgnw x, 9218868437227405312 + sgnw y, 16, true) else nanT none)
  else if tag = 20 then (if single then (9218868437227405312 + sgnw x, sgnw y, 16, true) else nanT none)
  else if tag = 5 then (if single && !(isZero x && isZero y) then ((if isZero x then 9221120237041090560 else 9218868437227405312 + sgI x u), (if isZero y then 9221120237041090560 else 9218868437227405312 + sgI y u), 16, true) else nanT none)
  else nanT none
theorem many2 {tag : Int} (h4 : tag ≠ 4) (h5 : tag ≠ 5) : many tag = 2 := by unfold many; rw [if_neg (by omega)]
theorem sing_tag {tag : Int} (x y u v : Int) (h5 : tag ≠ 5) (h8 : tag ≠ 8) (h17 : tag ≠ 17) (h20 : tag ≠ 20) : singZ tag x y u v = false := by
  unfold singZ; rw [if_neg h5, if_neg h8, if_neg h17, if_neg h20, Bool.and_false]
theorem sing8 {x y u v : Int} (h : singZ 8 x y u v = true) : isInf x = false ∧ isInf y = false ∧ isNot x = false ∧ isNot y = false := by
  have := sing_any h
  rw [many2 (by decide) (by decide), any2] at this
  simp only [Bool.or_eq_false_iff] at this
  exact ⟨this.1.1, this.2.1, this.1.2, this.2.2⟩
/-- The code's and the document's tables say the same. -/
theorem spec_tab (tag x y u v : Int) (h0 : 0 ≤ tag) (h20 : tag ≤ 20) : specI tag x y u v = tabI tag x y u (anyK x y u v (many tag)) (allN x y u v (many tag)) (singZ tag x y u v) := by
  unfold specI
  rw [if_neg (by omega)]
  have hse : ∀ b : Int, sgnw b ≠ 0 ↔ negB b = true := sgnw_ne
  have hs0 : sgnw x = 0 ↔ negB x = false := by
    have := sgnw_ne x
    cases hn : negB x
    · rw [hn] at this
      constructor
      · intro _; rfl
      · intro _; apply Classical.byContradiction; intro h; exact absurd (this.1 h) (by simp)
    · rw [hn] at this
      constructor
      · intro h; exact absurd h (this.2 rfl)
      · intro h; cases h
  by_cases t2 : tag = 2
  · subst t2
    rw [sing_tag x y u v (by decide) (by decide) (by decide) (by decide)]
    unfold tabI toldI finI
    cases anyK x y u v (many 2)
    · simp
    · simp only [Bool.not_true, Bool.false_and, Bool.false_eq_true, if_false, if_true]
      unfold cleanW
      cases isNot y <;> simp
  by_cases t3 : tag = 3
  · subst t3
    rw [sing_tag x y u v (by decide) (by decide) (by decide) (by decide)]
    unfold tabI toldI finI
    cases anyK x y u v (many 3)
    · simp
    · cases isInf x <;> cases isInf y <;> simp
  by_cases t0 : tag = 0
  · subst t0
    rw [sing_tag x y u v (by decide) (by decide) (by decide) (by decide)]
    unfold tabI toldI finI nanT
    cases anyK x y u v (many 0)
    · simp
    · cases isInf x <;> cases isInf y <;> simp
  by_cases t1 : tag = 1
  · subst t1
    rw [sing_tag x y u v (by decide) (by decide) (by decide) (by decide), many2 (by decide) (by decide), all2]
    unfold tabI toldI finI nanT
    cases anyK x y u v 2
    · simp
    · cases isNot x <;> cases isNot y <;> simp
  by_cases t6 : tag = 6
  · subst t6
    rw [sing_tag x y u v (by decide) (by decide) (by decide) (by decide), many2 (by decide) (by decide), all2]
    unfold tabI toldI finI nanT
    cases anyK x y u v 2
    · simp
    · by_cases hn : negB x = true
      · have := hs0
        cases isNot x <;> cases isNot y <;> cases isInf y <;> simp [hs0, hn]
      · have hn : negB x = false := by simpa using hn
        cases isNot x <;> cases isNot y <;> cases isInf y <;> simp [hs0, hn]
  by_cases t7 : tag = 7
  · subst t7
    rw [sing_tag x y u v (by decide) (by decide) (by decide) (by decide)]
    unfold tabI toldI finI nanT
    cases anyK x y u v (many 7)
    · simp
    · cases hn : negB x <;> cases isInf x <;> cases isZero y <;> simp [hs0, hn]
  by_cases t8 : tag = 8
  · subst t8
    have s8 := sing8 (x := x) (y := y) (u := u) (v := v)
    rw [many2 (by decide) (by decide), all2, any2]
    unfold tabI toldI finI nanT singI
    cases hsg : singZ 8 x y u v
    · have hxi := inf_not x
      have hyi := inf_not y
      cases hix : isInf x <;> cases hiy : isInf y <;> cases hox : isNot x <;> cases hoy : isNot y <;> simp [hix, hiy, hox, hoy] at hxi hyi ⊢
    · obtain ⟨a1, a2, a3, a4⟩ := s8 hsg
      cases hn : negB x <;> simp [a1, a2, a3, a4, hs0, hn]
  by_cases t17 : tag = 17
  · subst t17
    unfold tabI toldI finI nanT singI
    cases hsg : singZ 17 x y u v
    · cases anyK x y u v (many 17) <;> simp
    · rw [sing_any hsg]; simp
  by_cases t20 : tag = 20
  · subst t20
    unfold tabI toldI finI nanT singI
    cases hsg : singZ 20 x y u v
    · cases anyK x y u v (many 20) <;> simp
    · rw [sing_any hsg]; simp
  by_cases t5 : tag = 5
  · subst t5
    unfold tabI toldI finI nanT singI
    cases hsg : singZ 5 x y u v
    · cases anyK x y u v (many 5) <;> simp
    · rw [sing_any hsg]
      cases isZero x <;> cases isZero y <;> simp
  · rw [sing_tag x y u v t5 t8 t17 t20]
    unfold tabI toldI finI nanT
    cases anyK x y u v (many tag)
    · simp
    · simp [t2, t3, t0, t1, t6, t7, t8, t17, t20, t5]
end Go.Proofs.Ytbfnjjnnlbchgaa
