/- A text of ours, with only what the claim's row needs (wip/tools/shake.py). -/
import Derived.Test.YteffemhapnbaeaaGreatDoorMN
import Derived.Test.YteffemhapnbaeaaGreatDoorMS
namespace Go.Proofs.YteffemhapnbaeaaGreatDoor
open Go.RowKit Num
set_option linter.unusedSimpArgs false
set_option linter.unusedVariables false
set_option maxRecDepth 100000

theorem Box.cell6 {w : World} {g : Nat} {a b c d e f : Value} {t : TypeId} (h : Box w g #[a, b, c, d, e, f] t) :
    w.cell? ⟨g, 0, none⟩ = some a ∧ w.cell? ⟨g, 1, none⟩ = some b ∧ w.cell? ⟨g, 2, none⟩ = some c ∧ w.cell? ⟨g, 3, none⟩ = some d ∧ w.cell? ⟨g, 4, none⟩ = some e ∧ w.cell? ⟨g, 5, none⟩ = some f ∧
      w.frozen? ⟨g, 0, none⟩ = false ∧ w.frozen? ⟨g, 1, none⟩ = false ∧ w.frozen? ⟨g, 2, none⟩ = false ∧ w.frozen? ⟨g, 3, none⟩ = false ∧ w.frozen? ⟨g, 4, none⟩ = false ∧ w.frozen? ⟨g, 5, none⟩ = false :=
  ⟨h.cell 0, h.cell 1, h.cell 2, h.cell 3, h.cell 4, h.cell 5, h.free 0, h.free 1, h.free 2, h.free 3, h.free 4, h.free 5⟩
/-- How the ends stand; whether it is a span. -/
def endsI (p q : Bool) (xs ys : List Int) (e f : Int) : Int := if plainB p xs e && plainB q ys f then cmpD ⟨p, val xs, e⟩ ⟨q, val ys, f⟩ else 0
def bothB (p q : Bool) (xs ys : List Int) (e f : Int) : Bool := plainB p xs e && plainB q ys f
def rightS (p q : Bool) (xs ys : List Int) (e f : Int) : Bool := bothB p q xs ys e f && decide (endsI p q xs ys e f ≤ 0)
def signS (p q : Bool) (xs ys : List Int) (e f : Int) : Int := if rightS p q xs ys e f then (if xs.length ≠ 0 ∧ p = false then 1 else if q then -1 else 0) else 0
theorem cmpR_is (p q : Bool) (xs ys : List Int) (e f : Int) : cmpR p q xs ys e f = .tuple #[.int .i64 (endsI p q xs ys e f), .bool (bothB p q xs ys e f)] := rfl
theorem spright (p q : Bool) (A A' : Option Addr) (n c n' c' : Nat) (xs ys : List Int) (e f : Int) (w : World) (h : Arr w A n c xs) (h' : Arr w A' n' c' ys) :
    Calls Tryz.prog 73 #[(.agg #[.bool p, .slice A n c, .int .i64 e, .bool q, .slice A' n' c', .int .i64 f])] w fun r w' => r = .returned (.bool (rightS p q xs ys e f)) ∧ Below w.heap.size w w' := by
  have b0 : Below w.heap.size w (w.alloc (.cells #[.bool p, .slice A n c, .int .i64 e, .bool q, .slice A' n' c', .int .i64 f] 28)) := below_alloc (below_self w) _
  have bx := box_new w #[.bool p, .slice A n c, .int .i64 e, .bool q, .slice A' n' c', .int .i64 f] 28
  obtain ⟨k0, k1, k2, k3, k4, k5, f0, f1, f2, f3, f4, f5⟩ := bx.cell6
  have C := dcmp p q A A' n c n' c' xs ys e f _ (h.below b0) (h'.below b0)
  rw [cmpR_is] at C
  have hr : rightS p q xs ys e f = (bothB p q xs ys e f && decide (endsI p q xs ys e f ≤ 0)) := rfl
  generalize rightS p q xs ys e f = rr at *
  generalize bothB p q xs ys e f = bb at *
  generalize endsI p q xs ys e f = cc at *
  have C := Lib.hid C
  have HR := Lib.hid hr
  clear hr
  cases bb
  all_goals
    go_enter Tryz.func73, Tryz.ntmps73
    go_wp2_with fail
    refine C.out.mono ?_
    rintro r w2 ⟨rfl, hb2⟩
    (have b0 := below_on b0 hb2; have bx := bx.later hb2; (clear k0 k1 k2 k3 k4 k5 f0 f1 f2 f3 f4 f5; obtain ⟨k0, k1, k2, k3, k4, k5, f0, f1, f2, f3, f4, f5⟩ := bx.cell6); clear hb2)
    go_wp2_with fail
    go_ret
    exact ⟨by rw [HR.out]; simp, b0⟩
theorem rright03 (p q : Bool) (A A' : Option Addr) (n c n' c' : Nat) (xs ys : List Int) (e f : Int) (w : World) (h : Arr w A n c xs) (h' : Arr w A' n' c' ys) (hn : n ≤ 1000000) (hn' : n' ≤ 1000000) :
    Calls Tryz.prog 77 #[(.agg #[.bool p, .slice A n c, .int .i64 e, .bool q, .slice A' n' c', .int .i64 f])] w fun r w' => r = .returned (.bool (rightS p q xs ys e f)) ∧ Below w.heap.size w w' := by
  have b0 : Below w.heap.size w (w.alloc (.cells #[.bool p, .slice A n c, .int .i64 e, .bool q, .slice A' n' c', .int .i64 f] 28)) := below_alloc (below_self w) _
  have bx := box_new w #[.bool p, .slice A n c, .int .i64 e, .bool q, .slice A' n' c', .int .i64 f] 28
  obtain ⟨k0, k1, k2, k3, k4, k5, f0, f1, f2, f3, f4, f5⟩ := bx.cell6
  have C := rdcmp p q A A' n c n' c' xs ys e f _ (h.below b0) (h'.below b0) hn hn'
  rw [cmpR_is] at C
  have hr : rightS p q xs ys e f = (bothB p q xs ys e f && decide (endsI p q xs ys e f ≤ 0)) := rfl
  generalize rightS p q xs ys e f = rr at *
  generalize bothB p q xs ys e f = bb at *
  generalize endsI p q xs ys e f = cc at *
  have C := Lib.hid C
  have HR := Lib.hid hr
  clear hr
  cases bb
  all_goals
    go_enter Tryz.func77, Tryz.ntmps77
    go_wp2_with fail
    refine C.out.mono ?_
    rintro r w2 ⟨rfl, hb2⟩
    (have b0 := below_on b0 hb2; have bx := bx.later hb2; (clear k0 k1 k2 k3 k4 k5 f0 f1 f2 f3 f4 f5; obtain ⟨k0, k1, k2, k3, k4, k5, f0, f1, f2, f3, f4, f5⟩ := bx.cell6); clear hb2)
    go_wp2_with fail
    go_ret
    exact ⟨by rw [HR.out]; simp, b0⟩
theorem spsign (p q : Bool) (A A' : Option Addr) (n c n' c' : Nat) (xs ys : List Int) (e f : Int) (w : World) (h : Arr w A n c xs) (h' : Arr w A' n' c' ys) :
    Calls Tryz.prog 61 #[(.agg #[.bool p, .slice A n c, .int .i64 e, .bool q, .slice A' n' c', .int .i64 f])] w fun r w' => r = .returned (.int .i64 (signS p q xs ys e f)) ∧ Below w.heap.size w w' := by
  have b0 : Below w.heap.size w (w.alloc (.cells #[.bool p, .slice A n c, .int .i64 e, .bool q, .slice A' n' c', .int .i64 f] 28)) := below_alloc (below_self w) _
  have bx := box_new w #[.bool p, .slice A n c, .int .i64 e, .bool q, .slice A' n' c', .int .i64 f] 28
  obtain ⟨k0, k1, k2, k3, k4, k5, f0, f1, f2, f3, f4, f5⟩ := bx.cell6
  have C := spright p q A A' n c n' c' xs ys e f _ (h.below b0) (h'.below b0)
  have hs : signS p q xs ys e f = if rightS p q xs ys e f then (if xs.length ≠ 0 ∧ p = false then 1 else if q then -1 else 0) else 0 := rfl
  rw [h.len] at hs
  generalize signS p q xs ys e f = ss at *
  generalize rightS p q xs ys e f = rr at *
  have C := Lib.hid C
  have HS := Lib.hid hs
  clear hs
  by_cases h0 : n = 0
  · subst h0
    cases rr <;> cases q
    all_goals
      go_enter Tryz.func61, Tryz.ntmps61
      go_wp2_with fail
      refine C.out.mono ?_
      rintro r w2 ⟨rfl, hb2⟩
      (have b0 := below_on b0 hb2; have bx := bx.later hb2; (clear k0 k1 k2 k3 k4 k5 f0 f1 f2 f3 f4 f5; obtain ⟨k0, k1, k2, k3, k4, k5, f0, f1, f2, f3, f4, f5⟩ := bx.cell6); clear hb2)
      go_wp2_with fail
      go_ret
      exact ⟨by rw [HS.out]; simp, b0⟩
  · have d0 : decide ((n : Int) > 0) = true := by simp; omega
    have d1 : decide (0 < n) = true := by simp; omega
    have hn0 : 0 < n := by omega
    cases rr <;> cases p <;> cases q
    all_goals
      go_enter Tryz.func61, Tryz.ntmps61
      go_wp2_with fail
      refine C.out.mono ?_
      rintro r w2 ⟨rfl, hb2⟩
      (have b0 := below_on b0 hb2; have bx := bx.later hb2; (clear k0 k1 k2 k3 k4 k5 f0 f1 f2 f3 f4 f5; obtain ⟨k0, k1, k2, k3, k4, k5, f0, f1, f2, f3, f4, f5⟩ := bx.cell6); clear hb2)
      go_wp2_with fail
      go_ret
      exact ⟨by rw [HS.out]; simp [h0], b0⟩
end Go.Proofs.YteffemhapnbaeaaGreatDoor
