/- special's points: any, angle. -/
import Derived.Deep.RegionHeld3
import Derived.Test.YtbfnjjnnlbchgaaSpA
namespace Go.Proofs.Ytbfnjjnnlbchgaa
open Go.RowKit Num
set_option linter.unusedSimpArgs false
set_option linter.unusedVariables false
set_option maxRecDepth 100000

def Sgn (s : Int) : Prop := s = 0 ∨ s = 9223372036854775808
theorem or_sign {c s : Int} (h0 : 0 ≤ c) (h1 : c < 9223372036854775808) (hs : Sgn s) : bits .or .u64 c s = c + s := by
  rcases hs with rfl | rfl
  · have := or_add (a := c) (b := 0) (s := 63) (by omega) h0 (by rw [show pw 63 = 9223372036854775808 from by decide]; exact h1) (by omega) (by omega)
    rw [Int.zero_mul, Int.add_zero] at this
    rw [this]; omega
  · have := or_add (a := c) (b := 1) (s := 63) (by omega) h0 (by rw [show pw 63 = 9223372036854775808 from by decide]; exact h1) (by omega) (by rw [show pw 63 = 9223372036854775808 from by decide]; omega)
    rw [show pw 63 = 9223372036854775808 from by decide, Int.one_mul] at this
    exact this
theorem Sgn.range {s : Int} (h : Sgn s) : 0 ≤ s ∧ s < 18446744073709551616 := by rcases h with rfl | rfl <;> omega
def angI (x y sx sy : Int) : Int × Int :=
  if isInf y then (if isInf x then (if sx ≠ 0 then (4612488097114038738 + sy, 1) else (4605249457297304856 + sy, 1)) else (4609753056924675352 + sy, 1))
  else if sx ≠ 0 then (4614256656552045848 + sy, 1) else (sy, 0)
theorem Box.cell4 {w : World} {g : Nat} {a b c d : Value} {t : TypeId} (h : Box w g #[a, b, c, d] t) : w.cell? ⟨g, 0, none⟩ = some a ∧ w.cell? ⟨g, 1, none⟩ = some b ∧ w.cell? ⟨g, 2, none⟩ = some c ∧ w.cell? ⟨g, 3, none⟩ = some d :=
  ⟨h.cell 0, h.cell 1, h.cell 2, h.cell 3⟩
theorem pany (x y sx sy : Int) (w : World) (x0 : 0 ≤ x) (x1 : x < 18446744073709551616) (y0 : 0 ≤ y) (y1 : y < 18446744073709551616) :
    Calls Try.prog 26 #[.agg #[.int .u64 x, .int .u64 y, .int .u64 sx, .int .u64 sy]] w fun r w' => r = .returned (.bool (isInf x || isInf y)) ∧ Below w.heap.size w w' := by
  have b0 := below_alloc (below_self w) (.cells #[.int .u64 x, .int .u64 y, .int .u64 sx, .int .u64 sy] 34)
  have IX := fun w => sinf x w x0 x1
  have IY := fun w => sinf y w y0 y1
  generalize isInf x = ix at *
  generalize isInf y = iy at *
  have IX := Lib.hid IX
  have IY := Lib.hid IY
  cases ix
  all_goals
    go_enter Try.func26, Try.ntmps26
    go_wp2_with fail
    refine (IX.out _).mono ?_; rintro r w' ⟨rfl, rfl⟩
    go_wp2_with (go_at_call 28; refine (IY.out _).mono ?_; rintro r w' ⟨rfl, rfl⟩)
    go_ret
    exact ⟨rfl, b0⟩
set_option maxHeartbeats 1000000 in
theorem pangle (x y sx sy : Int) (w : World) (x0 : 0 ≤ x) (x1 : x < 18446744073709551616) (y0 : 0 ≤ y) (y1 : y < 18446744073709551616) (hsy : Sgn sy) :
    Calls Try.prog 27 #[.agg #[.int .u64 x, .int .u64 y, .int .u64 sx, .int .u64 sy]] w fun r w' => r = .returned (.tuple #[.int .u64 (angI x y sx sy).1, .int .i64 (angI x y sx sy).2]) ∧ Below w.heap.size w w' := by
  have b0 := below_alloc (below_self w) (.cells #[.int .u64 x, .int .u64 y, .int .u64 sx, .int .u64 sy] 34)
  have IX := fun w => sinf x w x0 x1
  have IY := fun w => sinf y w y0 y1
  have o1 := or_sign (c := 4612488097114038738) (by omega) (by omega) hsy
  have o2 := or_sign (c := 4605249457297304856) (by omega) (by omega) hsy
  have o3 := or_sign (c := 4609753056924675352) (by omega) (by omega) hsy
  have o4 := or_sign (c := 4614256656552045848) (by omega) (by omega) hsy
  unfold angI
  generalize isInf x = ix at *
  generalize isInf y = iy at *
  have IX := Lib.hid IX
  have IY := Lib.hid IY
  have O1 := Lib.hid o1
  have O2 := Lib.hid o2
  have O3 := Lib.hid o3
  have O4 := Lib.hid o4
  clear o1 o2 o3 o4
  have hs2 : sx = 0 ∨ ((sx == 0) = false ∧ sx ≠ 0) := by
    by_cases h : sx = 0
    · exact .inl h
    · exact .inr ⟨beq_eq_false_iff_ne.2 h, h⟩
  rcases hs2 with rfl | ⟨hs, hs3⟩
  all_goals
    cases ix <;> cases iy
    all_goals
      try simp only [if_true, if_false, Bool.false_eq_true, ne_eq, not_true_eq_false, hs3, not_false_eq_true]
      go_enter Try.func27, Try.ntmps27
      go_wp2_with fail
      go_region_held3 (fun w' => w'.cell? ⟨w.heap.size, 0, none⟩ = some (.int .u64 x) ∧ w'.cell? ⟨w.heap.size, 1, none⟩ = some (.int .u64 y)) (go_keep)
        (first | (go_at_call_of 28 (Value.int .u64 x); refine (IX.out _).mono ?_; rintro e w' ⟨rfl, rfl⟩) | (go_at_call_of 28 (Value.int .u64 y); refine (IY.out _).mono ?_; rintro e w' ⟨rfl, rfl⟩))
      all_goals
        go_wp2_with fail
        go_ret2
        exact ⟨by first | rfl | (rw [O1.out]; rfl) | (rw [O2.out]; rfl) | (rw [O3.out]; rfl) | (rw [O4.out]; rfl) | (rw [← O1.out]; rfl) | (rw [← O2.out]; rfl) | (rw [← O3.out]; rfl) | (rw [← O4.out]; rfl), (by repeat (first | with_reducible assumption | with_reducible exact below_self _ | with_reducible refine below_drewN ?_ _ | with_reducible apply Below.drew | with_reducible refine below_alloc ?_ _))⟩
end Go.Proofs.Ytbfnjjnnlbchgaa
